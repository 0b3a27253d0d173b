import Derived.RangeFuncNested
import Derived.RangeFuncBound
import Derived.RangeFuncCalls
import Derived.RangeFuncLeaves
import Derived.Shelf.Abstract
import Derived.Shelf.RegionOpen
import Derived.WalkKit
import Derived.OwnWalkIn
import Derived.TacticsInMore
import Derived.LoopNIn
import Derived.LoopIn
import Derived.Maps.AppendAt
import Derived.StillTailTactics
import Derived.Lib.Hide
import Derived.Lib.LazyBuf
import Derived.Outline
import Derived.Deep.RegionWith
import Derived.Deep.RegionLaw
import Derived.Deep.AppendLies
import Derived.CallsIn
import Derived.Lib.Bytes
import Derived.Deep.DeepCutAuto
import Derived.Lib.SmallJoins
import Derived.Laws.EntriesVeiled
import Derived.Deep.RegionHeld3
import Derived.BigRegion
import Derived.BigQuiet
import Derived.Test.YtpcednpkkimehaaPPl
import Derived.Test.YtpcednpkkimehaaGAll
namespace Go.Proofs.Ytpcednpkkimehaa.QA
open Go.RowKit Go.Shelf Go.Proofs.YtpcednpkkimehaaW.PrintWords Go.Proofs.YtpcednpkkimehaaW.PrintLast Go.Proofs.YtpcednpkkimehaaW.PrintMore
attribute [local go_sem] max2_int min2_int max_two min_two max_three min_three max_four min_four   -- for this text's walks alone
set_option linter.unusedVariables false
set_option linter.unusedSimpArgs false
/-! ### PeerWrong -/
theorem at_place (n : Int) (L : Nat) (hL : L ≤ 1048576) : ∃ k : Nat, k ≤ L ∧ wrap64 ((IntKind.u64.wrap n).tmod (IntKind.u64.wrap (wrap64 ((L : Int) + 1)))) = (k : Int) ∧ ¬ IntKind.u64.wrap (wrap64 ((L : Int) + 1)) = 0 := by
  have h1 : IntKind.u64.wrap (wrap64 ((L : Int) + 1)) = ((L + 1 : Nat) : Int) := by
    rw [show wrap64 ((L : Int) + 1) = ((L + 1 : Nat) : Int) by unfold wrap64; omega]
    simp [IntKind.wrap, IntKind.signed, IntKind.bits]
    omega
  have h2 : 0 ≤ IntKind.u64.wrap n := by
    simp [IntKind.wrap, IntKind.signed, IntKind.bits]
    omega
  rw [h1]
  obtain ⟨m, hm⟩ := Int.eq_ofNat_of_zero_le h2
  rw [hm]
  have h3 : ((m : Int)).tmod ((L + 1 : Nat) : Int) = ((m % (L + 1) : Nat) : Int) := by
    rw [← Int.ofNat_tmod]
  rw [h3]
  have h4 := Nat.mod_lt m (show 0 < L + 1 by omega)
  refine ⟨m % (L + 1), by omega, ?_, by omega⟩
  unfold wrap64
  omega
theorem hear_first (c : Pc) {k : Nat} (h : k ≤ c.inn.length) : (⟨0, 0, true⟩ : Pz).hear c (c.inn.take k) = ⟨0, k, true⟩ := by
  unfold Pz.hear
  have hl : (c.inn.take k).length = k := by rw [List.length_take]; omega
  simp [hl, h]
theorem due_le (t : Int) (l : List S40) : ∀ (n m : Nat), due t n m l ≤ n + (way 0 l).length := by
  induction l with
  | nil => intro n m; simp [due]
  | cons e r ih =>
    intro n m
    have hw : (way 0 (e :: r)).length = (if e.f0 = 0 then e.f2.length else 0) + (way 0 r).length := by rw [way_cons, List.length_append]; split <;> simp
    rw [hw]
    simp only [due]
    split
    · have := ih n (m + e.f2.length); omega
    · split
      · split
        · omega
        · have := ih (n + e.f2.length) m; omega
      · have := ih n m; omega
theorem due_mrg_le (t : Int) {l : List S40} (hl : small l) : due t 0 0 (mrg l) ≤ 1048576 := by
  have h1 := due_le t (mrg l) 0 0
  have h2 := way_le 0 (mrg l)
  have h3 := small_tot (small_mrg hl)
  omega
theorem u8_ne {a b : Int} (ha : 0 ≤ a ∧ a < 256) (hb : 0 ≤ b ∧ b < 256) (h : a ≠ b) : ((strOfNums [a]).toList == (strOfNums [b]).toList) = false := by
  rw [beq_eq_false_iff_ne]
  intro he
  rw [Go.Lib.strOfNums_toList, Go.Lib.strOfNums_toList] at he
  simp only [Go.Lib.bytesOf, List.map_cons, List.map_nil, List.cons.injEq, and_true] at he
  have h2 := congrArg UInt8.toNat he
  simp only [UInt8.toNat_ofNat'] at h2
  omega
theorem hear_wrong (c : Pc) {k : Nat} {x : Int} (hx : 0 ≤ x ∧ x < 256) (hb : ∀ y ∈ c.inn, 0 ≤ y ∧ y < 256) (h : ∀ y, c.inn[k]? = some y → x ≠ y) : (⟨0, k, true⟩ : Pz).hear c [x] = ⟨0, k + 1, false⟩ := by
  unfold Pz.hear
  simp only [List.length_singleton, Bool.true_and, Pz.mk.injEq, true_and]
  rcases Nat.lt_or_ge k c.inn.length with hk | hk
  · rw [List.drop_eq_getElem_cons hk, List.take_succ_cons, List.take_zero, u8_ne hx (hb _ (List.getElem_mem hk)) (h _ (List.getElem?_eq_getElem hk)), Bool.and_false]
  · rw [decide_eq_false (by omega), Bool.false_and]
theorem hear_false (c : Pc) {h : Nat} (b : List Int) : (⟨0, h, false⟩ : Pz).hear c b = ⟨0, h + b.length, false⟩ := by
  unfold Pz.hear
  simp
set_option maxRecDepth 100000 in
set_option maxHeartbeats 8000000 in
theorem peerWrong_walk (l : List S40) (hl : small l) (hby : ∀ x ∈ way 1 l, 0 ≤ x ∧ x < 256) (fin : Bool) (n : Int) (hn0 : -9223372036854775808 ≤ n) (hn : n ≤ 9223372036854775807) (A : Option Addr) (cl : Nat) (more : List Int) (hm : more.length ≤ 1048576) (Am : Option Addr) (cm : Nat) (W : World) (hC : Kd.C k40 W A l.length l) (hc : l.length ≤ cl) (hCm : Kd.C (Kd.int .u8) W Am more.length more) (hcm : more.length ≤ cm) :
    Calls Try.prog 6 #[.agg #[.slice A l.length cl, .bool fin], .int .i64 n, .slice Am more.length cm] W fun e W' => e = .returned (.bool true) ∧ Below W.heap.size W W' := by
  have hk := refcheck_f l hl (k := 2 * l.length + 1) (Nat.le_refl _)
  rw [show (if 4096 < l.length then (10 : Int) else chk l 0) = chkN l from rfl] at hk
  have hs := small_tot hl
  have hT : TrAt (W.alloc (.cells #[.slice A l.length cl, .bool fin] 24)) W.heap.size A l.length cl fin := World.alloc_heap_new W _
  have hBW : Below W.heap.size W (W.alloc (.cells #[.slice A l.length cl, .bool fin] 24)) := (Below.refl _ W).alloc (Nat.le_refl _) _
  have hCW := Kd.C_below hC hBW
  have hMW := Kd.C_below hCm hBW
  have HW := Lib.hid (show (W.alloc (.cells #[.slice A l.length cl, .bool fin] 24)).heap.size = W.heap.size + 1 by simp)
  generalize hW0 : W.alloc (.cells #[.slice A l.length cl, .bool fin] 24) = W0 at hT hBW hCW hMW HW
  have HM := Lib.hid hMW
  have HM0 := Lib.hid hCm
  have HK := Lib.hid hk
  have HT := Lib.hid hT
  have HC := Lib.hid hCW
  have HB := Lib.hid hBW
  have HS := Lib.hid hs
  have HW0 := Lib.hid hW0
  clear hk hT hCW hBW hs hW0 hC hCm hMW
  by_cases h60 : 60 < l.length
  · have h60' : decide ((60 : Int) < (l.length : Int)) = true := decide_eq_true (by omega)
    go_enter Try.func6, Try.ntmps6
    go_wp2_with (fail)
    rw [HW0.out]
    refine (cuecardlaw20_aliveT W0).mono ?_
    rintro e w1 ⟨rfl, hB1⟩
    have c0 := (HT.out.below hB1).c0
    go_wp2_with (fail)
    refine (cuecardlaw20_aliveT w1).mono ?_
    rintro e w2 ⟨rfl, hB2⟩
    go_wp2
    go_ret
    exact ⟨rfl, below_step (below_step HB.out hB1) hB2⟩
  · have h60' : decide ((60 : Int) < (l.length : Int)) = false := decide_eq_false (by omega)
    by_cases hz : chkN l = 0
    · have hzb : (chkN l != 0) = false := bne_eq_false_iff_eq.mpr hz
      have HN := Lib.hid (fun W => new_c l hl fin A cl W)
      have HK' := Lib.hid (hz ▸ HK.out)
      have HRI := Lib.hid (refbytes_f 1 l hl (l.length + 1) (by omega))
      rw [hz] at HN
      clear HK hz hzb
      go_enter Try.func6, Try.ntmps6
      go_wp2_with (fail)
      rw [HW0.out]
      refine (cuecardlaw20_aliveT W0).mono ?_
      rintro e w1 ⟨rfl, hB1⟩
      have c0 := (HT.out.below hB1).c0
      go_wp2_with (fail)
      refine (cuecardref04_Check.calls _ A cl l 0 _ (Kd.C_below HC.out hB1) hc HK'.out).mono ?_
      rintro e w2 ⟨rfl, hB2⟩
      have HB2 := Lib.hid (below_step hB1 hB2)
      have HT2 := Lib.hid (HT.out.below HB2.out)
      have HC2 := Lib.hid (Kd.C_below HC.out HB2.out)
      have HM2 := Lib.hid (Kd.C_below HM.out HB2.out)
      have HBW2 := Lib.hid (below_step HB.out HB2.out)
      clear c0 hB1 hB2 HT HC HB HB2 HM
      have c0 := HT2.out.c0
      have c1 := HT2.out.c1
      go_wp2_with (fail)
      refine (HN.out w2 HC2.out hc).mono ?_
      clear c0 c1
      rintro e w3 ⟨left, h⟩
      obtain ⟨a, rfl, hP, haB, hb3⟩ := h trivial
      clear h left
      have HP3 := Lib.hid hP
      have HT3 := Lib.hid (HT2.out.below hb3)
      have HC3 := Lib.hid (Kd.C_below HC2.out hb3)
      have HM3 := Lib.hid (Kd.C_below HM2.out hb3)
      have HBW3 := Lib.hid (below_step HBW2.out hb3)
      have HaT := Lib.hid (show W.heap.size < a.B by have := (Array.getElem?_eq_some_iff.1 HT2.out).1; omega)
      have HaL := Lib.hid hP.lt
      clear hP haB hb3 HT2 HC2 HBW2 HM2
      have c0 := HT3.out.c0
      have c1 := HT3.out.c1
      go_wp2_with (fail)
      refine (HN.out w3 HC3.out hc).mono ?_
      clear c0 c1
      rintro e w4 ⟨left, h⟩
      obtain ⟨b, rfl, hQ, hbB, hb4⟩ := h trivial
      clear h HN left
      have HP4 := Lib.hid (HP3.out.below hb4)
      have HQ4 := Lib.hid hQ
      have HT4 := Lib.hid (HT3.out.below hb4)
      have HC4 := Lib.hid (Kd.C_below HC3.out hb4)
      have HM4 := Lib.hid (Kd.C_below HM3.out hb4)
      have HBW4 := Lib.hid (below_step HBW3.out hb4)
      have HbB := Lib.hid hbB
      have HbL := Lib.hid hQ.lt
      -- what the two peers' calls leave as it was
      have HPQ := Lib.hid (show ∀ (V V' : World) (s : Pz), PeAt V (fun k => w2.heap.size ≤ k ∧ k < w3.heap.size ∧ k ≠ a.B) a (Pc.of l fin) s → V.grownBy V' (some b.B) → PeAt V' (fun k => w2.heap.size ≤ k ∧ k < w3.heap.size ∧ k ≠ a.B) a (Pc.of l fin) s from fun V V' s h g => h.grown g (fun e => by injection e with e; have := HaL.out; omega) (fun k hk e => by injection e with e; omega))
      have HQP := Lib.hid (show ∀ (V V' : World) (s : Pz), PeAt V (fun k => w3.heap.size ≤ k ∧ k < w4.heap.size ∧ k ≠ b.B) b (Pc.of l fin) s → V.grownBy V' (some a.B) → PeAt V' (fun k => w3.heap.size ≤ k ∧ k < w4.heap.size ∧ k ≠ b.B) b (Pc.of l fin) s from fun V V' s h g => h.grown g (fun e => by injection e with e; have := HaL.out; omega) (fun k hk e => by injection e with e; have := HaL.out; omega))
      clear hQ hbB hb4 HT3 HC3 HBW3 HM3 HP3
      have c0 := HT4.out.c0
      go_wp2_with (fail)
      refine (cuecardref04_Bytes.calls (l.length + 1) 1 A cl l (way 1 l) _ HC4.out hc HRI.out).mono ?_
      clear c0
      rintro e w5 ⟨v, rfl, hRi, hB5⟩
      obtain ⟨Ai, ci, rfl⟩ := Kd.R_slice hRi
      have HRi := Lib.hid (Kd.R_bound hRi)
      have HP5 := Lib.hid (HP4.out.below hB5)
      have HQ5 := Lib.hid (HQ4.out.below hB5)
      have HM5 := Lib.hid (Kd.C_below HM4.out hB5)
      have HBW5 := Lib.hid (below_step HBW4.out hB5)
      have HX5 := Lib.hid hB5.size
      have hci := (Kd.R_reads' hRi).2.1
      clear hRi hB5 HP4 HQ4 HM4 HBW4 HC4 HT4
      obtain ⟨k, hkL, hk1, hk2⟩ := at_place n (way 1 l).length (by have := way_le 1 l; have := HS.out; omega)
      have hkc : k ≤ ci := Nat.le_trans hkL hci
      have hk2 := eq_false hk2
      go_wp2_with (fail)
      rw [hk1]
      clear hk1 hk2
      have hkl : ((way 1 l).take k).length = k := by rw [List.length_take]; omega
      have hL := show (way 1 l).length ≤ 1048576 by have := way_le 1 l; have := HS.out; omega
      have HKL := Lib.hid hkl
      have HL := Lib.hid hL
      have C4 := peer_Hear HP5.out (show (way 1 l).length ≤ 1048576 from hL) (by decide) Ai ci ((way 1 l).take k) (Kd.C_take (Kd.R_reads' HRi.out).2.2 hkL) (by omega)
      rw [show (⟨0, 0, true⟩ : Pz).hear (Pc.of l fin) ((way 1 l).take k) = ⟨0, k, true⟩ from hear_first (Pc.of l fin) hkL, hkl] at C4
      refine C4.mono ?_
      clear C4 hkl
      rintro e w6 ⟨⟨v, rfl⟩, hp6, hg6⟩
      have HP6 := Lib.hid hp6
      have HQ6 := Lib.hid (HQP.out _ _ _ HQ5.out hg6)
      have HRi6 := Lib.hid (Kd.R_grown HRi.out hg6 (fun k hk e => by injection e with e; have := HaL.out; have := HbB.out; have := HbL.out; omega))
      have HBW6 := Lib.hid (HBW5.out.grown hg6 HBW5.out.size (fun k hk => by injection hk with hk; have := HaT.out; omega))
      clear hp6 hg6 HP5 HQ5 HBW5 HRi
      go_wp2_with (fail)
      have C4 := peer_Hear HQ6.out (show (way 1 l).length ≤ 1048576 from hL) (by decide) Ai ci ((way 1 l).take k) (Kd.C_take (Kd.R_reads' HRi6.out).2.2 hkL) (by have := HKL.out; omega)
      rw [show (⟨0, 0, true⟩ : Pz).hear (Pc.of l fin) ((way 1 l).take k) = ⟨0, k, true⟩ from hear_first (Pc.of l fin) hkL, HKL.out] at C4
      refine C4.mono ?_
      clear C4
      rintro e w7 ⟨⟨v, rfl⟩, hq7, hg7⟩
      have HQ7 := Lib.hid hq7
      have HP7 := Lib.hid (HPQ.out _ _ _ HP6.out hg7)
      have HRi7 := Lib.hid (Kd.R_grown HRi6.out hg7 (fun k hk e => by injection e with e; have := HaL.out; have := HbB.out; have := HbL.out; omega))
      have HBW7 := Lib.hid (HBW6.out.grown hg7 HBW6.out.size (fun k hk => by injection hk with hk; have := HaT.out; have := HaL.out; have := HbB.out; omega))
      clear hq7 hg7 HP6 HQ6 HBW6 HRi6
      go_wp2_with (fail)
      refine (peer_Right HP7.out).mono ?_
      rintro e w8 ⟨rfl, hb8⟩
      have HP8 := Lib.hid (HP7.out.below hb8)
      have HQ8 := Lib.hid (HQ7.out.below hb8)
      have HRi8 := Lib.hid (Kd.R_below HRi7.out hb8)
      have HBW8 := Lib.hid (below_step HBW7.out hb8)
      clear hb8 HP7 HQ7 HRi7 HBW7
      go_upto_region 14 with (fail)
      go_cut [92] (fun s92 wx => s92 = .bool (decide ((way 1 l)[k]? = some (n % 256))) ∧ wx = w8)
      case first =>
        by_cases hkk : k < (way 1 l).length
        · have hkk' := eq_true hkk
          obtain ⟨ad, hAi, hcell⟩ := Kd.at_int (Kd.R_reads' HRi8.out).2.2 (k : Int) (by omega) (by omega)
          subst hAi
          rw [Int.toNat_natCast] at hcell
          have hrd : (way 1 l)[k]? = some (rd (way 1 l) (k : Int)) := by simp [rd, List.getD_eq_getElem?_getD, List.getElem?_eq_getElem hkk]
          generalize rd (way 1 l) (k : Int) = y at hcell hrd
          have HRD := Lib.hid hrd
          clear hrd hkL hkc hci
          go_wp2_with (fail)
          go_meet
          refine ⟨?_, rfl⟩
          rw [HRD.out]
          simp only [Option.some.injEq, Value.bool.injEq]
          rw [Bool.eq_iff_iff, beq_iff_eq, decide_eq_true_eq]
          exact eq_comm
        · have hkk' := eq_false hkk
          have HRD := Lib.hid (show (way 1 l)[k]? = none from List.getElem?_eq_none (by omega))
          go_wp2_with (fail)
          go_meet
          exact ⟨by rw [HRD.out]; simp, rfl⟩
      case rest =>
        obtain ⟨rfl, hwc⟩ := hcut
        subst hwc
        go_upto_if 92 with (fail)
        go_cut [7] (fun s7 wx => ∃ c : Int, s7 = .int .u8 c ∧ (0 ≤ c ∧ c < 256) ∧ (∀ y, (way 1 l)[k]? = some y → c ≠ y) ∧ wx = wc)
        case first =>
          by_cases hr : (way 1 l)[k]? = some (n % 256)
          · have hr' := decide_eq_true hr
            have HR := Lib.hid hr
            clear hr
            go_wp2_with (fail)
            go_meet
            exact ⟨_, rfl, by omega, fun y hy e => by have h2 := HR.out; rw [hy] at h2; injection h2 with h2; omega, rfl⟩
          · have hr' := decide_eq_false hr
            have HR := Lib.hid hr
            clear hr
            go_wp2_with (fail)
            go_meet
            exact ⟨_, rfl, by omega, fun y hy e => HR.out (by rw [hy, e]), rfl⟩
        case rest =>
          obtain ⟨c, rfl, hc1, hc2, hwc⟩ := hcut
          subst hwc
          have HC1 := Lib.hid hc1
          have HC2 := Lib.hid hc2
          have HBY := Lib.hid hby
          clear hc1 hc2 hby hk2
          go_wp2_with (fail)
          have hbx : Below wc.heap.size wc (wc.alloc (.cells #[.int .u8 c] 5)) := (Below.refl _ wc).alloc (Nat.le_refl _) _
          have C4 := peer_Hear (HP8.out.below hbx) (show (way 1 l).length ≤ 1048576 from hL) (show k ≤ 4294967296 by omega) (some ⟨wc.heap.size, 0, none⟩) 1 [c] (reads_u8 (xs := [c]) (fun j hj => by match j, hj with | 0, _ => (go_simp; done)) (by simp)) (by simp)
          rw [hear_wrong (Pc.of l fin) HC1.out HBY.out HC2.out] at C4
          refine C4.mono ?_
          clear C4
          rintro e w9 ⟨⟨v, rfl⟩, hp9, hg9⟩
          have HP9 := Lib.hid hp9
          have HQ9 := Lib.hid (HQP.out _ _ _ (HQ8.out.below hbx) hg9)
          have HBW9 := Lib.hid ((below_step HBW8.out hbx).grown hg9 (below_step HBW8.out hbx).size (fun k hk => by injection hk with hk; have := HaT.out; omega))
          clear hp9 hg9 hbx HP8 HQ8 HBW8 HRi8
          go_wp2_with (fail)
          have hbx : Below w9.heap.size w9 (w9.alloc (.cells #[.int .u8 ((c + 1) % 256)] 5)) := (Below.refl _ w9).alloc (Nat.le_refl _) _
          have C4 := peer_Hear (HQ9.out.below hbx) (show (way 1 l).length ≤ 1048576 from hL) (show k ≤ 4294967296 by omega) (some ⟨w9.heap.size, 0, none⟩) 1 [(c + 1) % 256] (reads_u8 (xs := [(c + 1) % 256]) (fun j hj => by match j, hj with | 0, _ => (go_simp; done)) (by simp)) (by simp)
          obtain ⟨rq, hrq⟩ : ∃ rq, (⟨0, k, true⟩ : Pz).hear (Pc.of l fin) [(c + 1) % 256] = ⟨0, k + 1, rq⟩ := ⟨_, rfl⟩
          rw [hrq] at C4
          refine C4.mono ?_
          clear C4 hrq
          rintro e w10 ⟨⟨v, rfl⟩, hq10, hg10⟩
          have HQ10 := Lib.hid hq10
          have HP10 := Lib.hid (HPQ.out _ _ _ (HP9.out.below hbx) hg10)
          have HBW10 := Lib.hid ((below_step HBW9.out hbx).grown hg10 (below_step HBW9.out hbx).size (fun k hk => by injection hk with hk; have := HaT.out; have := HaL.out; have := HbB.out; omega))
          clear hq10 hg10 hbx HP9 HQ9 HBW9
          go_wp2_with (fail)
          refine (peer_Right HP10.out).mono ?_
          rintro e w11 ⟨rfl, hb11⟩
          have HP11 := Lib.hid (HP10.out.below hb11)
          have HQ11 := Lib.hid (HQ10.out.below hb11)
          have HBW11 := Lib.hid (below_step HBW10.out hb11)
          clear hb11 HP10 HQ10 HBW10
          go_wp2_with (fail)
          refine (peer_Due HP11.out (small_mrg hl) (Nat.zero_le _) (due_mrg_le _ hl)).mono ?_
          rintro e w12 ⟨rfl, hb12⟩
          have HP12 := Lib.hid (HP11.out.below hb12)
          have HQ12 := Lib.hid (HQ11.out.below hb12)
          have HBW12 := Lib.hid (below_step HBW11.out hb12)
          clear hb12 HP11 HQ11 HBW11
          go_wp2_with (fail)
          refine (peer_Due HQ12.out (small_mrg hl) (Nat.zero_le _) (due_mrg_le _ hl)).mono ?_
          rintro e w13 ⟨rfl, hb13⟩
          have HP13 := Lib.hid (HP12.out.below hb13)
          have HQ13 := Lib.hid (HQ12.out.below hb13)
          have HBW13 := Lib.hid (below_step HBW12.out hb13)
          clear hb13 HP12 HQ12 HBW12
          obtain ⟨m, hmm⟩ : ∃ m : Nat, m = min 60 more.length := ⟨_, rfl⟩
          have e1 : (if (60 : Int) < (more.length : Int) then (60 : Int) else (more.length : Int)) = (m : Int) := by split <;> omega
          have hm1 : m ≤ cm := by omega
          have hm2 : m ≤ 60 := by omega
          have hm3 : m ≤ more.length := by omega
          clear hmm
          go_wp2_with (fail)
          go_loopw [119] (fun i wr => ∃ (x : Nat) (r : Bool), x ≤ m ∧ i = .int .i64 x ∧ PeAt wr (fun k => w2.heap.size ≤ k ∧ k < w3.heap.size ∧ k ≠ a.B) a (Pc.of l fin) ⟨0, k + 1 + x, false⟩ ∧ PeAt wr (fun k => w3.heap.size ≤ k ∧ k < w4.heap.size ∧ k ≠ b.B) b (Pc.of l fin) ⟨0, k + 1 + x, r⟩ ∧ Below W.heap.size W wr)
            (fun i _ => m - (intOf i).toNat)
          case atStart => exact ⟨0, rq, Nat.zero_le _, rfl, HP13.out, HQ13.out, HBW13.out⟩
          case round =>
            obtain ⟨x, r, hx, rfl, hPr, hQr, hBr⟩ := hrel
            have HPr := Lib.hid hPr
            have HQr := Lib.hid hQr
            have HBr := Lib.hid hBr
            clear hPr hQr hBr HP13 HQ13 HBW13
            by_cases hlt : x < m
            · have hlt' := eq_true hlt
              obtain ⟨ad, hAm, hcell⟩ := Kd.at_int (Kd.C_below HM0.out HBr.out) (x : Int) (by omega) (by omega)
              subst hAm
              rw [Int.toNat_natCast] at hcell
              generalize rd more (x : Int) = y at hcell
              go_wp2_with (fail)
              have hbx : Below wr.heap.size wr (wr.alloc (.cells #[.int .u8 y] 5)) := (Below.refl _ wr).alloc (Nat.le_refl _) _
              have C4 := peer_Hear (HPr.out.below hbx) (show (way 1 l).length ≤ 1048576 from hL) (show k + 1 + x ≤ 4294967296 by omega) (some ⟨wr.heap.size, 0, none⟩) 1 [y] (reads_u8 (xs := [y]) (fun j hj => by match j, hj with | 0, _ => (go_simp; done)) (by simp)) (by simp)
              rw [hear_false (Pc.of l fin) [y]] at C4
              refine C4.mono ?_
              clear C4
              rintro e x1 ⟨⟨v, rfl⟩, hp14, hg14⟩
              have HP14 := Lib.hid hp14
              have HQ14 := Lib.hid (HQP.out _ _ _ (HQr.out.below hbx) hg14)
              have HBW14 := Lib.hid ((below_step HBr.out hbx).grown hg14 (below_step HBr.out hbx).size (fun k hk => by injection hk with hk; have := HaT.out; omega))
              clear hp14 hg14 hbx HPr HQr HBr
              go_wp2_with (fail)
              have hbx : Below x1.heap.size x1 (x1.alloc (.cells #[.int .u8 ((y + 1) % 256)] 5)) := (Below.refl _ x1).alloc (Nat.le_refl _) _
              have C4 := peer_Hear (HQ14.out.below hbx) (show (way 1 l).length ≤ 1048576 from hL) (show k + 1 + x ≤ 4294967296 by omega) (some ⟨x1.heap.size, 0, none⟩) 1 [(y + 1) % 256] (reads_u8 (xs := [(y + 1) % 256]) (fun j hj => by match j, hj with | 0, _ => (go_simp; done)) (by simp)) (by simp)
              obtain ⟨r2, hr2⟩ : ∃ r2, (⟨0, k + 1 + x, r⟩ : Pz).hear (Pc.of l fin) [(y + 1) % 256] = ⟨0, k + 1 + x + 1, r2⟩ := ⟨_, rfl⟩
              rw [hr2] at C4
              refine C4.mono ?_
              clear C4 hr2
              rintro e x2 ⟨⟨v, rfl⟩, hq15, hg15⟩
              have HQ15 := Lib.hid hq15
              have HP15 := Lib.hid (HPQ.out _ _ _ (HP14.out.below hbx) hg15)
              have HBW15 := Lib.hid ((below_step HBW14.out hbx).grown hg15 (below_step HBW14.out hbx).size (fun k hk => by injection hk with hk; have := HaT.out; have := HaL.out; have := HbB.out; omega))
              clear hq15 hg15 hbx HP14 HQ14 HBW14
              go_wp2_with (fail)
              refine (peer_Right HP15.out).mono ?_
              rintro e x3 ⟨rfl, hb⟩
              have HP16 := Lib.hid (HP15.out.below hb)
              have HQ16 := Lib.hid (HQ15.out.below hb)
              have HBW16 := Lib.hid (below_step HBW15.out hb)
              clear hb HP15 HQ15 HBW15
              go_wp2_with (fail)
              refine (peer_Due HP16.out (small_mrg hl) (Nat.zero_le _) (due_mrg_le _ hl)).mono ?_
              rintro e x4 ⟨rfl, hb⟩
              have HP17 := Lib.hid (HP16.out.below hb)
              have HQ17 := Lib.hid (HQ16.out.below hb)
              have HBW17 := Lib.hid (below_step HBW16.out hb)
              clear hb HP16 HQ16 HBW16
              go_wp2_with (fail)
              refine (peer_Due HQ17.out (small_mrg hl) (Nat.zero_le _) (due_mrg_le _ hl)).mono ?_
              rintro e x5 ⟨rfl, hb⟩
              have HP18 := Lib.hid (HP17.out.below hb)
              have HQ18 := Lib.hid (HQ17.out.below hb)
              have HBW18 := Lib.hid (below_step HBW17.out hb)
              clear hb HP17 HQ17 HBW17
              go_wp2_with (fail)
              refine (peer_Over HP18.out).mono ?_
              rintro e x6 ⟨rfl, hb⟩
              have HP19 := Lib.hid (HP18.out.below hb)
              have HQ19 := Lib.hid (HQ18.out.below hb)
              have HBW19 := Lib.hid (below_step HBW18.out hb)
              clear hb HP18 HQ18 HBW18
              go_wp2_with (fail)
              have C5 := peer_Over HQ19.out
              rw [show (⟨0, k + 1 + x + 1, r2⟩ : Pz).over (Pc.of l fin) = (⟨0, k + 1 + x + [y].length, false⟩ : Pz).over (Pc.of l fin) from rfl] at C5
              refine C5.mono ?_
              clear C5
              rintro e x7 ⟨rfl, hb⟩
              have HP20 := Lib.hid (HP19.out.below hb)
              have HQ20 := Lib.hid (HQ19.out.below hb)
              have HBW20 := Lib.hid (below_step HBW19.out hb)
              clear hb HP19 HQ19 HBW19 hlt' hcell
              go_wp2
              go_roundw
              case rel => exact ⟨x + 1, r2, by omega, by go_num, HP20.out, HQ20.out, HBW20.out⟩
              case measure => simp [intOf]; omega
            · obtain rfl : x = m := by omega
              have hh1 : IntKind.i64.wrap ((k : Int) + 1) = ((k + 1 : Nat) : Int) := by rw [i64_w]; unfold wrap64; omega
              have hh2 : IntKind.i64.wrap (((k + 1 : Nat) : Int) + (x : Int)) = ((k + 1 + x : Nat) : Int) := by rw [i64_w]; unfold wrap64; omega
              go_wp2_with (fail)
              refine (peer_Heard HPr.out).mono ?_
              rintro e x8 ⟨rfl, hb⟩
              have HB8 := Lib.hid (below_step HBr.out hb)
              clear hb HBr HPr HQr
              go_wp2
              go_ret
              exact ⟨rfl, HB8.out⟩
    · have hzb : (chkN l != 0) = true := bne_iff_ne.mpr hz
      go_enter Try.func6, Try.ntmps6
      go_wp2_with (fail)
      rw [HW0.out]
      refine (cuecardlaw20_aliveT W0).mono ?_
      rintro e w1 ⟨rfl, hB1⟩
      have c0 := (HT.out.below hB1).c0
      go_wp2_with (fail)
      refine (cuecardref04_Check.calls _ A cl l (chkN l) _ (Kd.C_below HC.out hB1) hc HK.out).mono ?_
      rintro e w2 ⟨rfl, hB2⟩
      go_wp2_with (fail)
      refine (cuecardlaw20_aliveT w2).mono ?_
      rintro e w3 ⟨rfl, hB3⟩
      go_wp2
      go_ret
      exact ⟨rfl, below_step (below_step (below_step HB.out hB1) hB2) hB3⟩
end Go.Proofs.Ytpcednpkkimehaa.QA
