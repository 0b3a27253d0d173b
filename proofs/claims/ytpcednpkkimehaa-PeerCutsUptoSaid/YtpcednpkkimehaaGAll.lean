import Derived.RangeFuncNested
import Derived.RangeFuncBound
import Derived.RangeFuncCalls
import Derived.RangeFuncLeaves
import Derived.Shelf.Abstract
import Derived.Shelf.RegionOpen
import Derived.WalkKit
import Derived.OwnWalkIn
import Derived.TacticsInMore
import Derived.LoopNIn
import Derived.LoopIn
import Derived.Maps.AppendAt
import Derived.StillTailTactics
import Derived.Lib.Hide
import Derived.Lib.LazyBuf
import Derived.Outline
import Derived.Deep.RegionWith
import Derived.Deep.RegionLaw
import Derived.Deep.AppendLies
import Derived.CallsIn
import Derived.Lib.SmallJoins
import Derived.Laws.EntriesVeiled
import Derived.Deep.RegionHeld3
import Derived.BigRegion
import Derived.BigQuiet
import Derived.Test.YtpcednpkkimehaaPPl
import Derived.Test.YtpcednpkkimehaaGNext
namespace Go.Proofs.Ytpcednpkkimehaa.QA
open Go.RowKit Go.Shelf Go.Proofs.YtpcednpkkimehaaW.PrintWords Go.Proofs.YtpcednpkkimehaaW.PrintLast Go.Proofs.YtpcednpkkimehaaW.PrintMore
attribute [local go_sem] max2_int min2_int max_two min_two max_three min_three max_four min_four   -- for this text's walks alone
set_option linter.unusedVariables false
set_option linter.unusedSimpArgs false
/-! ### PeerAll -/
theorem str_append (a b : List Int) : strOfNums a ++ strOfNums b = strOfNums (a ++ b) := by
  apply ByteArray.ext
  simp [strOfNums, ByteArray.data_append]
/-- the row of a transcript that is boxed -/
def TrAt (W : World) (B : Nat) (A : Option Addr) (n cl : Nat) (fin : Bool) : Prop := W.heap[B]? = some (.cells #[.slice A n cl, .bool fin] 24 (0, 0))
theorem TrAt.below {W W' : World} {B : Nat} {A : Option Addr} {n cl : Nat} {fin : Bool} (h : TrAt W B A n cl fin) (hb : Below W.heap.size W W') : TrAt W' B A n cl fin := (hb.block _ (Array.getElem?_eq_some_iff.1 h).1).trans h
theorem TrAt.grown {W W' : World} {B : Nat} {A : Option Addr} {n cl : Nat} {fin : Bool} (h : TrAt W B A n cl fin) {row : Option Nat} (hb : W.grownBy W' row) (hne : some B ≠ row) : TrAt W' B A n cl fin := (hb.block _ (Array.getElem?_eq_some_iff.1 h).1 hne).trans h
theorem TrAt.c0 {W : World} {B : Nat} {A : Option Addr} {n cl : Nat} {fin : Bool} (h : TrAt W B A n cl fin) : W.cell? ⟨B, 0, none⟩ = some (.slice A n cl) := (blk_cell h 0).trans rfl
theorem TrAt.c1 {W : World} {B : Nat} {A : Option Addr} {n cl : Nat} {fin : Bool} (h : TrAt W B A n cl fin) : W.cell? ⟨B, 1, none⟩ = some (.bool fin) := (blk_cell h 1).trans rfl
theorem hear_all (c : Pc) : (⟨0, 0, true⟩ : Pz).hear c c.inn = ⟨0, c.inn.length, true⟩ := by
  unfold Pz.hear
  simp
theorem due_inn (l : List S40) {t : Nat} (h : (way 1 l).length ≤ t) : due (t : Int) 0 0 (mrg l) = (way 0 l).length := by
  rw [due_all (t : Int) (mrg l) 0 0 (by rw [way_mrg]; omega), way_mrg, Nat.zero_add]
theorem peek_take (c : Pc) (s : Pz) (n : Int) : c.out.take s.said ++ s.peek c n = c.out.take (s.said + (s.peek c n).length) := by
  unfold Pz.peek
  rw [List.take_add, List.length_take]
  congr 1
  rw [List.take_eq_take_iff]
  omega
theorem peek_all_len {c : Pc} {s : Pz} {n : Int} (hd : due s.heard 0 0 c.l = c.out.length) (hn : 1 ≤ n) (hp : s.said ≤ c.out.length) : (s.peek c n).length = min n.toNat (c.out.length - s.said) := by
  unfold Pz.peek
  rw [List.length_take, List.length_drop, hd]
  omega
def stepA (n : Int) : Int := 1 + (max 0 n) % 9
set_option maxRecDepth 100000 in
set_option maxHeartbeats 8000000 in
theorem peerAll_walk (l : List S40) (hl : small l) (fin : Bool) (n : Int) (hn : n ≤ 9223372036854775807) (A : Option Addr) (cl : Nat) (W : World) (hC : Kd.C k40 W A l.length l) (hc : l.length ≤ cl) :
    Calls Try.prog 3 #[.agg #[.slice A l.length cl, .bool fin], .int .i64 n] W fun e W' => e = .returned (.bool true) ∧ Below W.heap.size W W' := by
  have hk := refcheck_f l hl (k := 2 * l.length + 1) (Nat.le_refl _)
  rw [show (if 4096 < l.length then (10 : Int) else chk l 0) = chkN l from rfl] at hk
  have hs := small_tot hl
  have hT : TrAt (W.alloc (.cells #[.slice A l.length cl, .bool fin] 24)) W.heap.size A l.length cl fin := World.alloc_heap_new W _
  have hBW : Below W.heap.size W (W.alloc (.cells #[.slice A l.length cl, .bool fin] 24)) := (Below.refl _ W).alloc (Nat.le_refl _) _
  have hCW := Kd.C_below hC hBW
  have HW := Lib.hid (show (W.alloc (.cells #[.slice A l.length cl, .bool fin] 24)).heap.size = W.heap.size + 1 by simp)
  generalize hW0 : W.alloc (.cells #[.slice A l.length cl, .bool fin] 24) = W0 at hT hBW hCW HW
  have HK := Lib.hid hk
  have HT := Lib.hid hT
  have HC := Lib.hid hCW
  have HB := Lib.hid hBW
  have HS := Lib.hid hs
  have HW0 := Lib.hid hW0
  clear hk hT hCW hBW hs hW0 hC
  by_cases h60 : 60 < l.length
  · have h60' : decide ((60 : Int) < (l.length : Int)) = true := decide_eq_true (by omega)
    go_enter Try.func3, Try.ntmps3
    go_wp2_with (fail)
    rw [HW0.out]
    refine (cuecardlaw20_aliveT W0).mono ?_
    rintro e w1 ⟨rfl, hB1⟩
    have c0 := (HT.out.below hB1).c0
    go_wp2_with (fail)
    refine (cuecardlaw20_aliveT w1).mono ?_
    rintro e w2 ⟨rfl, hB2⟩
    go_wp2
    go_ret
    exact ⟨rfl, below_step (below_step HB.out hB1) hB2⟩
  · have h60' : decide ((60 : Int) < (l.length : Int)) = false := decide_eq_false (by omega)
    by_cases hz : chkN l = 0
    · have hzb : (chkN l != 0) = false := bne_eq_false_iff_eq.mpr hz
      have HN := Lib.hid (fun W => new_c l hl fin A cl W)
      have HK' := Lib.hid (hz ▸ HK.out)
      have HRO := Lib.hid (refbytes_f 0 l hl (l.length + 1) (by omega))
      have HRI := Lib.hid (refbytes_f 1 l hl (l.length + 1) (by omega))
      rw [hz] at HN
      clear HK hz hzb
      go_enter Try.func3, Try.ntmps3
      go_wp2_with (fail)
      rw [HW0.out]
      refine (cuecardlaw20_aliveT W0).mono ?_
      rintro e w1 ⟨rfl, hB1⟩
      have c0 := (HT.out.below hB1).c0
      go_wp2_with (fail)
      refine (cuecardref04_Check.calls _ A cl l 0 _ (Kd.C_below HC.out hB1) hc HK'.out).mono ?_
      rintro e w2 ⟨rfl, hB2⟩
      have HB2 := Lib.hid (below_step hB1 hB2)
      have HT2 := Lib.hid (HT.out.below HB2.out)
      have HC2 := Lib.hid (Kd.C_below HC.out HB2.out)
      have HBW2 := Lib.hid (below_step HB.out HB2.out)
      clear c0 hB1 hB2 HT HC HB HB2
      have c0 := HT2.out.c0
      have c1 := HT2.out.c1
      go_wp2_with (fail)
      refine (HN.out w2 HC2.out hc).mono ?_
      clear c0 c1
      rintro e w3 ⟨left, h⟩
      obtain ⟨a, rfl, hP, haB, hb3⟩ := h trivial
      clear h HN left
      have HP3 := Lib.hid hP
      have HT3 := Lib.hid (HT2.out.below hb3)
      have HC3 := Lib.hid (Kd.C_below HC2.out hb3)
      have HBW3 := Lib.hid (below_step HBW2.out hb3)
      have HaT := Lib.hid (show W.heap.size < a.B by have := (Array.getElem?_eq_some_iff.1 HT2.out).1; omega)
      clear hP haB hb3 HT2 HC2 HBW2
      have t3 : w3.drew.cell? ⟨W.heap.size, 0, none⟩ = some (.slice A l.length cl) := HT3.out.c0
      go_upto_region 6 with (fail)
      go_cut [7, 8] (fun s7 s8 wx => ∃ Ai ci, s7 = .string (strOfNums (way 0 l)) ∧ s8 = .slice Ai (way 1 l).length ci ∧ Kd.R (Kd.int .u8) 5 wx w3.heap.size (fun _ => True) (.slice Ai (way 1 l).length ci) (way 1 l) ∧ Below w3.heap.size w3 wx)
      case first =>
        go_region_with (first
          | (go_at_call_of 12 (Value.int IntKind.i64 0); refine (cuecardref04_Bytes.calls (l.length + 1) 0 A cl l (way 0 l) _ (Kd.C_drew HC3.out) hc HRO.out).mono ?_; rintro e w4 ⟨v, rfl, hRo, hB4⟩; have hcv := own_string (P := Try.prog) Try.underlying31 Try.underlying5 Try.underlying9 (Kd.own_of_R hRo); obtain ⟨Ao, co, rfl⟩ := Kd.R_slice hRo; have HRo := Lib.hid hRo; have HB4 := Lib.hid hB4; have t4 := pw_cell_below hB4 t3; clear hRo hB4)
          | (go_at_call_of 12 (Value.int IntKind.i64 1); refine (cuecardref04_Bytes.calls (l.length + 1) 1 A cl l (way 1 l) _ (Kd.C_below (Kd.C_drew HC3.out) HB4.out) hc HRI.out).mono ?_; rintro e w5 ⟨v, rfl, hRi, hB5⟩; have hcv5 := own_string (P := Try.prog) Try.underlying31 Try.underlying5 Try.underlying9 (Kd.own_of_R (Kd.R_below HRo.out hB5)); obtain ⟨Ai, ci, rfl⟩ := Kd.R_slice hRi; have HRi := Lib.hid hRi; have HB5 := Lib.hid hB5; have t5 := pw_cell_below hB5 t4; clear hRi hB5))
        all_goals
          go_wp2_with (fail)
          go_meet
          exact ⟨Ai, ci, rfl, rfl, Kd.R_lower HRi.out HB4.out.size, ⟨HB5.out.os.trans HB4.out.os, HB5.out.tape.trans HB4.out.tape, HB5.out.output.trans HB4.out.output, Nat.le_trans HB4.out.size HB5.out.size, fun k hk => (HB5.out.block k (Nat.lt_of_lt_of_le hk HB4.out.size)).trans (HB4.out.block k hk)⟩⟩
      case rest =>
        clear t3
        obtain ⟨Ai, ci, rfl, rfl, hRi5, hB45⟩ := hcut
        have HRi := Lib.hid hRi5
        have HB45 := Lib.hid hB45
        clear hRi5 hB45
        have HP5 := Lib.hid (HP3.out.below HB45.out)
        have HT5 := Lib.hid (HT3.out.below HB45.out)
        have HBW5 := Lib.hid (below_step HBW3.out HB45.out)
        have HX5 := Lib.hid (show w3.heap.size ≤ wc.heap.size from HB45.out.size)
        clear HB45 HP3 HT3 HBW3
        have hso : (strOfNums (way 0 l)).size = (way 0 l).length := strOfNums_size _
        by_cases h2 : 2000 < (way 0 l).length
        · have h2' : decide ((2000 : Int) < ((way 0 l).length : Int)) = true := decide_eq_true (by omega)
          clear HW HS
          go_wp2
          go_ret
          exact ⟨rfl, HBW5.out⟩
        have h2' : decide ((2000 : Int) < ((way 0 l).length : Int)) = false := decide_eq_false (by omega)
        by_cases h3 : 2000 < (way 1 l).length
        · have h3' : decide ((2000 : Int) < ((way 1 l).length : Int)) = true := decide_eq_true (by omega)
          clear HW HS
          go_wp2
          go_ret
          exact ⟨rfl, HBW5.out⟩
        have h3' : decide ((2000 : Int) < ((way 1 l).length : Int)) = false := decide_eq_false (by omega)
        go_wp2_with (fail)
        have C4 := peer_Hear HP5.out (show (way 1 l).length ≤ 1048576 by omega) (by decide) Ai ci (way 1 l) (Kd.R_reads' HRi.out).2.2 (by omega)
        rw [show (⟨0, 0, true⟩ : Pz).hear (Pc.of l fin) (way 1 l) = ⟨0, (way 1 l).length, true⟩ from hear_all (Pc.of l fin)] at C4
        refine C4.mono ?_
        clear C4
        rintro e w6 ⟨⟨v, rfl⟩, hp6, hg6⟩
        have HP6 := Lib.hid hp6
        have HT6 := Lib.hid (HT5.out.grown hg6 (fun e => by injection e with e; have := HaT.out; omega))
        have HBW6 := Lib.hid (HBW5.out.grown hg6 HBW5.out.size (fun k hk => by injection hk with hk; have := HaT.out; omega))
        clear hp6 hg6 HP5 HT5 HBW5
        go_wp2_with (fail)
        go_loopw [9, 56] (fun s i wr => ∃ (k p : Nat), k ≤ (way 0 l).length ∧ p ≤ (way 0 l).length ∧ (k ≤ p ∨ p = (way 0 l).length) ∧ s = .string (strOfNums ((way 0 l).take p)) ∧ i = .int .i64 k ∧ PeAt wr (fun k => w2.heap.size ≤ k ∧ k < w3.heap.size ∧ k ≠ a.B) a (Pc.of l fin) ⟨p, (way 1 l).length, true⟩ ∧ TrAt wr W.heap.size A l.length cl fin ∧ Below W.heap.size W wr)
          (fun _ i _ => (way 0 l).length - (intOf i).toNat)
        case atStart => exact ⟨0, 0, Nat.zero_le _, Nat.zero_le _, .inl (Nat.le_refl _), rfl, rfl, HP6.out, HT6.out, HBW6.out⟩
        case round =>
          obtain ⟨k, p, hk, hp, hkp, rfl, rfl, hPr, hTr, hBr⟩ := hrel
          have HPr := Lib.hid hPr
          have HTr := Lib.hid hTr
          have HBr := Lib.hid hBr
          clear hPr hTr hBr HP6 HT6 HBW6
          by_cases hlt : k < (way 0 l).length
          · have hlt' := eq_true hlt
            obtain ⟨m0, hm0⟩ : ∃ m0 : Nat, m0 = n.toNat := ⟨_, rfl⟩
            have e1 : (if (0 : Int) < n then n else (0 : Int)) = (m0 : Int) := by split <;> omega
            have hm1 : (m0 : Int) ≤ 9223372036854775807 := by omega
            clear hm0 hn
            have hn1 : (1 : Int) ≤ 1 + (m0 : Int) % 9 := by omega
            have HDu := Lib.hid (due_inn l (t := (way 1 l).length) (Nat.le_refl _))
            have hY := peek_take (Pc.of l fin) ⟨p, (way 1 l).length, true⟩ (1 + (m0 : Int) % 9)
            have hYl := peek_all_len (c := Pc.of l fin) (s := ⟨p, (way 1 l).length, true⟩) HDu.out hn1 hp
            have C2 := peer_Say HPr.out (small_mrg hl) (by rw [show due _ 0 0 (Pc.of l fin).l = _ from HDu.out]; exact hp) (by rw [show due _ 0 0 (Pc.of l fin).l = _ from HDu.out]; exact Nat.le_refl _) (show (way 0 l).length ≤ 1048576 by omega) (1 + (m0 : Int) % 9)
            unfold Pz.say at C2
            generalize (⟨p, (way 1 l).length, true⟩ : Pz).peek (Pc.of l fin) (1 + (m0 : Int) % 9) = ys at C2 hY hYl
            replace hY : (way 0 l).take p ++ ys = (way 0 l).take (p + ys.length) := hY
            replace hYl : ys.length = min (1 + (m0 : Int) % 9).toNat ((way 0 l).length - p) := hYl
            have HY := Lib.hid hY
            have HYl := Lib.hid hYl
            have C2' := Lib.hid C2
            have hcc := eq_false (show ¬ 9223372036854775807 < (strOfNums ((way 0 l).take p)).size + (strOfNums ys).size by rw [strOfNums_size, strOfNums_size, List.length_take]; omega)
            clear hY hYl C2 hn1
            go_wp2_with (fail)
            refine C2'.out.mono ?_
            rintro e w7 ⟨v, rfl, hR, hp7, hg7⟩
            have hcv := own_string (P := Try.prog) Try.underlying31 Try.underlying5 Try.underlying9 (Kd.own_of_R hR)
            obtain ⟨Av, cv, rfl⟩ := Kd.R_slice hR
            have HP7 := Lib.hid hp7
            have HT7 := Lib.hid (HTr.out.grown hg7 (fun e => by injection e with e; have := HaT.out; omega))
            have HBW7 := Lib.hid (HBr.out.grown hg7 HBr.out.size (fun k hk => by injection hk with hk; have := HaT.out; omega))
            clear hR hp7 hg7 HPr HTr HBr C2'
            go_wp2
            go_roundw
            case rel =>
              have hYl := HYl.out
              exact ⟨k + 1, p + ys.length, by omega, by omega, by omega, by rw [← HY.out, str_append], by go_num, HP7.out, HT7.out, HBW7.out⟩
            case measure => simp [intOf]; omega
          · obtain rfl : k = (way 0 l).length := by omega
            obtain rfl : p = (way 0 l).length := by omega
            rw [List.take_length]
            go_wp2_with (fail)
            have HDu := Lib.hid (due_inn l (t := (way 1 l).length) (Nat.le_refl _))
            have HPd := Lib.hid HPr.out.drew
            have C15 := peer_Due HPd.out (small_mrg hl) (by rw [show due _ 0 0 (Pc.of l fin).l = _ from HDu.out]; exact hp) (by rw [show due _ 0 0 (Pc.of l fin).l = _ from HDu.out]; omega)
            rw [show due _ 0 0 (Pc.of l fin).l = _ from HDu.out, show (way 0 l).length - (⟨(way 0 l).length, (way 1 l).length, true⟩ : Pz).said = 0 from Nat.sub_self _] at C15
            have HO15 := Lib.hid C15
            have hov : (⟨(way 0 l).length, (way 1 l).length, true⟩ : Pz).over (Pc.of l fin) = fin := by unfold Pz.over Pc.of; simp
            have hpk : (⟨(way 0 l).length, (way 1 l).length, true⟩ : Pz).peek (Pc.of l fin) 9 = [] := by unfold Pz.peek Pc.of; simp
            have HOV := Lib.hid hov
            have HPK := Lib.hid hpk
            have HL := Lib.hid (show (Pc.of l fin).out.length ≤ 1048576 from (show (way 0 l).length ≤ 1048576 by omega))
            have k1 := HTr.out.c1
            have k1 : wr.drew.cell? ⟨W.heap.size, 1, none⟩ = some (.bool fin) := k1
            clear C15 hov hpk hkp hlt hk
            go_region_held3 (fun w' => w'.cell? ⟨W.heap.size, 1, none⟩ = some (.bool fin))
              (first | exact k1 | exact k2 | exact k3 | exact k4 | exact k5 | go_keep)
              (first
                | (go_at_call 15; refine HO15.out.mono ?_; rintro e w7 ⟨rfl, hb7⟩; have HP7 := Lib.hid (HPd.out.below hb7); have k2 := pw_cell_below hb7 k1; have HB7 := Lib.hid hb7; clear hb7)
                | (go_at_call 16; refine (peer_Right HP7.out).mono ?_; rintro e w8 ⟨rfl, hb8⟩; have HP8 := Lib.hid (HP7.out.below hb8); have k3 := pw_cell_below hb8 k2; have HB8 := Lib.hid hb8; clear hb8)
                | (go_at_call 17; refine (peer_Over HP8.out).mono ?_; rintro e w9 ⟨rfl, hb9⟩; rw [HOV.out]; have HP9 := Lib.hid (HP8.out.below hb9); have k4 := pw_cell_below hb9 k3; have HB9 := Lib.hid hb9; clear hb9)
                | (go_at_call 14; refine (peer_Say HP9.out (small_mrg hl) (by rw [show due _ 0 0 (Pc.of l fin).l = _ from HDu.out]; exact hp) (by rw [show due _ 0 0 (Pc.of l fin).l = _ from HDu.out]; exact Nat.le_refl _) HL.out 9).mono ?_; rintro e w10 ⟨v, rfl, hR, _, hg10⟩; rw [HPK.out] at hR; obtain ⟨Av, cv, rfl⟩ := Kd.R_slice hR; have HB10 := Lib.hid hg10; have k5 := (World.cell?_of_block (a := ⟨W.heap.size, 1, none⟩) (w := w9) (w' := w10) (hg10.block W.heap.size (World.block_lt_of_cell? _ _ k4) (fun e => by injection e with e; have := HaT.out; omega))).trans k4; clear hR hg10))
            have HB7 : Below wr.heap.size wr w7 := ⟨HB7.out.os, HB7.out.tape, HB7.out.output, HB7.out.size, HB7.out.block⟩
            have hB9 := below_step (below_step (below_step HBr.out HB7) HB8.out) HB9.out
            have hB10 := hB9.grown HB10.out hB9.size (fun k hk => by injection hk with hk; have := HaT.out; omega)
            clear k1 k2 k3 k4 k5
            go_wp2
            go_ret
            exact ⟨by simp, hB10⟩
    · have hzb : (chkN l != 0) = true := bne_iff_ne.mpr hz
      go_enter Try.func3, Try.ntmps3
      go_wp2_with (fail)
      rw [HW0.out]
      refine (cuecardlaw20_aliveT W0).mono ?_
      rintro e w1 ⟨rfl, hB1⟩
      have c0 := (HT.out.below hB1).c0
      go_wp2_with (fail)
      refine (cuecardref04_Check.calls _ A cl l (chkN l) _ (Kd.C_below HC.out hB1) hc HK.out).mono ?_
      rintro e w2 ⟨rfl, hB2⟩
      go_wp2_with (fail)
      refine (cuecardlaw20_aliveT w2).mono ?_
      rintro e w3 ⟨rfl, hB3⟩
      go_wp2
      go_ret
      exact ⟨rfl, below_step (below_step (below_step HB.out hB1) hB2) hB3⟩
end Go.Proofs.Ytpcednpkkimehaa.QA
