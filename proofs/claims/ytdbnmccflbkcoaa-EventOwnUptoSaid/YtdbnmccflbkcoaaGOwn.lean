import Derived.RangeFuncNested
import Derived.RangeFuncBound
import Derived.RangeFuncCalls
import Derived.RangeFuncLeaves
import Derived.Shelf.Abstract
import Derived.Shelf.RegionOpen
import Derived.WalkKit
import Derived.OwnWalkIn
import Derived.TacticsInMore
import Derived.LoopNIn
import Derived.LoopIn
import Derived.Maps.AppendAt
import Derived.StillTailTactics
import Derived.Lib.Hide
import Derived.Lib.LazyBuf
import Derived.Outline
import Derived.Deep.RegionWith
import Derived.Deep.RegionLaw
import Derived.Deep.AppendLies
import Derived.CallsIn

import Derived.Lib.Bytes
import Derived.Deep.DeepCutAuto
import Derived.Lib.SmallJoins
import Derived.Laws.EntriesVeiled
import Derived.Deep.RegionHeld3
import Derived.BigRegion
import Derived.BigQuiet
import Derived.Test.YtdbnmccflbkcoaaPMrg
import Derived.Test.YtdbnmccflbkcoaaPSm
import Derived.Test.YtdbnmccflbkcoaaQAx7
import Derived.Test.YtdbnmccflbkcoaaQAx8
import Derived.Test.YtdbnmccflbkcoaaGBytes
import Derived.Test.YtdbnmccflbkcoaaGAlive
import Derived.Test.YtdbnmccflbkcoaaGOwn0
namespace Go.Proofs.Ytdbnmccflbkcoaa.QA
open Go.RowKit Go.Shelf Go.Proofs.YtdbnmccflbkcoaaW.PrintWords Go.Proofs.YtdbnmccflbkcoaaW.PrintLast Go.Proofs.YtdbnmccflbkcoaaW.PrintMore
attribute [local go_sem] max2_int min2_int max_two min_two max_three min_three max_four min_four   -- for this text's walks alone
set_option linter.unusedVariables false
set_option linter.unusedSimpArgs false
/-! ### EventOwn -/
set_option maxRecDepth 100000 in
set_option maxHeartbeats 8000000 in
theorem eventOwn_walk (l : List S32) (hl : small l) (A : Option Addr) (cl : Nat) (W : World) (hC : Kd.C k32 W A l.length l) (hc : l.length ≤ cl) :
    Calls Try.prog 6 #[.slice A l.length cl] W fun e W' => e = .returned (.bool true) ∧ Below W.heap.size W W' := by
  obtain ⟨q, hq⟩ : ∃ q : Nat, q = min 100 l.length := ⟨_, rfl⟩
  have e1 : (if (100 : Int) < (l.length : Int) then (100 : Int) else (l.length : Int)) = (q : Int) := by split <;> omega
  have hql : q ≤ l.length := by omega
  have hqc : q ≤ cl := by omega
  have hq100 : q ≤ 100 := by omega
  clear hq
  have hCq := Kd.C_take hC hql
  have hlq : (l.take q).length = q := by rw [List.length_take]; omega
  rw [hlq] at hCq
  have hsq := small_take hl q
  generalize l.take q = L at hCq hlq hsq
  have hst := small_tot hsq
  have hmf := merge_f L hsq (k := L.length + 1) (by omega)
  have hbf := bytes_f 0 L hsq 0
  have hsf := refsame_f L L (by omega) (k := L.length + 1) (Nat.le_refl _)
  rw [same_self] at hsf
  have hmm := small_tot (small_mrg hsq).1
  rw [hlq] at hmf hsf
  have HMF := Lib.hid hmf
  have HBF := Lib.hid hbf
  have HSF := Lib.hid hsf
  have HCQ := Lib.hid hCq
  have HLQ := Lib.hid hlq
  have HST := Lib.hid hst
  have HMM := Lib.hid hmm
  have HC0 := Lib.hid hC
  clear hmf hbf hsf hCq hst hmm hsq hC hl
  go_enter Try.func6, Try.ntmps6
  go_wp2_with (fail)
  go_loopw [3, 18] (fun sv i wr => ∃ x : Nat, x ≤ q ∧ i = .int .i64 x ∧ Kd.R k32 32 wr W.heap.size (fun _ => True) sv (L.take x) ∧ Below W.heap.size W wr)
    (fun _ i _ => q - (intOf i).toNat)
  case atStart => exact ⟨0, Nat.zero_le _, rfl, Kd.R_nil _ _ _ _ _, Below.refl _ _⟩
  case round =>
    obtain ⟨x, hx, rfl, hRv, hBr⟩ := hrel
    by_cases hlt : x < q
    · have hlt' := eq_true hlt
      obtain ⟨ad, A2, c2, hAe, hx0, hx1, hx2, hl2, hC2⟩ := at_T32 HCQ.out (x : Int) (by omega) (by omega)
      subst hAe
      rw [Int.toNat_natCast] at hx0 hx1 hx2
      replace hx0 := pw_cell_below hBr hx0
      replace hx1 := pw_cell_below hBr hx1
      replace hx2 := pw_cell_below hBr hx2
      have hxL : x < L.length := by rw [HLQ.out]; exact hlt
      have hy := rdT L x hxL
      have hmem := tot_mem (List.getElem_mem hxL)
      have htk : L.take (x + 1) = L.take x ++ [L[x]] := List.take_succ_eq_append_getElem hxL
      rw [← hy] at hmem htk
      clear hy
      generalize rd_T32 L (x : Int) = y at hx0 hx1 hx2 hl2 hC2 hmem htk
      have hyl : y.f2.length ≤ 1048576 := by have := HST.out; omega
      have HTK := Lib.hid htk
      have HCY := Lib.hid hC2
      have HRV := Lib.hid hRv
      have HBR := Lib.hid hBr
      clear htk hC2 hmem hRv hBr
      go_upto_region 5 with (fail)
      have hbV : Below wr.heap.size wr (wr.alloc (.cells #[.int .i64 y.f0, .int .i64 y.f1, .slice A2 y.f2.length c2] 32)) := (Below.refl _ wr).alloc (Nat.le_refl _) _
      have hEV : (wr.alloc (.cells #[.int .i64 y.f0, .int .i64 y.f1, .slice A2 y.f2.length c2] 32)).heap[wr.heap.size]? = some (.cells #[.int .i64 y.f0, .int .i64 y.f1, .slice A2 y.f2.length c2] 32 (0, 0)) := World.alloc_heap_new wr _
      generalize wr.alloc (.cells #[.int .i64 y.f0, .int .i64 y.f1, .slice A2 y.f2.length c2] 32) = V at hbV hEV ⊢
      have HVs := Lib.hid hbV.size
      have HVl := Lib.hid (Array.getElem?_eq_some_iff.1 hEV).1
      have HS3 := Lib.hid (show ∀ w' : World, w'.heap[wr.heap.size]? = V.heap[wr.heap.size]? → w'.cell? ⟨wr.heap.size, 0, none⟩ = some (.int .i64 y.f0) ∧ w'.cell? ⟨wr.heap.size, 1, none⟩ = some (.int .i64 y.f1) ∧ w'.cell? ⟨wr.heap.size, 2, none⟩ = some (.slice A2 y.f2.length c2) from fun w' e => ⟨(blk_cell (e.trans hEV) 0).trans rfl, (blk_cell (e.trans hEV) 1).trans rfl, (blk_cell (e.trans hEV) 2).trans rfl⟩)
      -- the row's block
      have hrow := Kd.R_own HRV.out
      obtain ⟨inner, hown⟩ := hrow
      have HLT := Lib.hid (show ∀ k, u3.ownBlock = some k → W.heap.size ≤ k ∧ k < wr.heap.size from fun k hk => ⟨own_base hown k hk, own_lt hown k hk⟩)
      have HSL := Lib.hid (own_slice hown)
      clear hown inner
      -- the bytes
      obtain ⟨X, hX⟩ : ∃ X, X = (V.alloc (.cells #[] 5)).drew := ⟨_, rfl⟩
      have hbX : Below V.heap.size V X := by rw [hX]; exact below_drew ((Below.refl _ V).alloc (Nat.le_refl _) _)
      have hXn : X.heap[V.heap.size]? = some (.cells #[] 5 (0, 0)) := by rw [hX]; exact World.alloc_heap_new V _
      have hsX : X.heap.size = V.heap.size + 1 := by rw [hX]; simp [World.drew]
      have hoX : X.ownsRow V.heap.size 5 1 (.slice (some ⟨V.heap.size, 0, none⟩) 0 0) ([] : List Int).length (nums .u8 []) :=
        ⟨rfl, .inr ⟨V.heap.size, 0, #[], rfl, Nat.le_refl _, hXn, Nat.le_refl _, Nat.zero_le _, rfl, rfl⟩⟩
      obtain ⟨v8, w8, happ8, ho8, hg8⟩ := append_bytes V.heap.size _ [] y.f2 A2 y.f2.length c2 hoX (Kd.reads_of_C (d := (0 : Int)) (h1 := fun _ => rfl) (Kd.C_below HCY.out (below_step (below_step HBR.out hbV) hbX))) (by omega) (by simp; omega) 26
      simp only [List.nil_append] at ho8
      obtain ⟨A8, c8, rfl⟩ := own_slice ho8
      have hb8 : ∀ k, (Value.slice A8 y.f2.length c8).ownBlock = some k → V.heap.size ≤ k := own_base ho8
      -- the event
      obtain ⟨Z, hZ⟩ : ∃ Z, Z = w8.alloc (.cells #[.int .i64 y.f0, .int .i64 y.f1, .slice A8 y.f2.length c8] 32) := ⟨_, rfl⟩
      have hbZ : Below w8.heap.size w8 Z := by rw [hZ]; exact (Below.refl _ w8).alloc (Nat.le_refl _) _
      have hnZ : Z.heap[w8.heap.size]? = some (.cells #[.int .i64 y.f0, .int .i64 y.f1, .slice A8 y.f2.length c8] 32 (0, 0)) := by rw [hZ]; exact World.alloc_heap_new w8 _
      have z8 := hg8.size
      have zZ := hbZ.size
      have hs := HVs.out
      have hRZ : Kd.R k32 32 Z W.heap.size (fun _ => True) u3 (L.take x) := by
        have h1 := Kd.R_below (Kd.R_below HRV.out hbV) hbX
        have h2 := Kd.R_below HRV.out hbV
        have h3 := Kd.R_below (Kd.R_bound h2) hbX
        exact Kd.R_below (Kd.R_mono (Kd.R_grown h3 hg8 (fun k hk e => by injection e with e; have := hk.2.2.1; have e : k = V.heap.size := e; omega)) (fun _ _ => trivial)) hbZ
      have hbWZ : Below W.heap.size W Z := by
        have h1 := below_step (below_step HBR.out hbV) hbX
        exact below_step (h1.grown hg8 h1.size (fun k hk => by injection hk with hk; have := HBR.out.size; have hk : V.heap.size = k := hk; omega)) hbZ
      have hM : k32.M Z W.heap.size (fun k => True ∧ some k ≠ u3.ownBlock) y [.int .i64 y.f0, .int .i64 y.f1, .slice A8 y.f2.length c8] := k32_mkM _ _ _ _ (Kd.R_lower (base := V.heap.size) (Kd.R_below (Kd.R_of_own (enc := Value.int .u8) (h1 := fun _ => rfl) (ok := fun k => True ∧ some k ≠ u3.ownBlock) ho8 (fun k hk => ⟨trivial, fun e => by have h5 := hb8 k hk; have h6 := (HLT.out k e.symm).2; omega⟩)) hbZ) (by have := HBR.out.size; omega))
      obtain ⟨v9, w9, happ9, hR9, hg9⟩ := append_event W.heap.size u3 (L.take x) y _ ⟨w8.heap.size, 0, none⟩ 1 hRZ hM (fun j u hu => by rw [add_plain]; exact (blk_cell hnZ j).trans (by simpa using hu)) hbWZ.size (by rw [List.length_take]; omega) 22
      have HR9 := Lib.hid hR9
      have HB9 := Lib.hid (hbWZ.grown hg9 hbWZ.size (fun k hk => (HLT.out k hk).1))
      have q1 : X.heap[wr.heap.size]? = V.heap[wr.heap.size]? := hbX.block _ HVl.out
      have q8 : w8.heap[wr.heap.size]? = V.heap[wr.heap.size]? := (hg8.block _ (by have := HVl.out; omega) (fun e => by injection e with e; have := HVl.out; have e : wr.heap.size = V.heap.size := e; omega)).trans q1
      have qZ : Z.heap[wr.heap.size]? = V.heap[wr.heap.size]? := (hbZ.block _ (by have := HVl.out; omega)).trans q8
      have q9 : w9.heap[wr.heap.size]? = V.heap[wr.heap.size]? := (hg9.block _ (by have := HVl.out; omega) (fun e => by have := (HLT.out _ e.symm).2; omega)).trans qZ
      have E1 := Lib.hid (HS3.out _ (show V.drew.heap[wr.heap.size]? = V.heap[wr.heap.size]? from rfl))
      have E2 := Lib.hid (HS3.out _ q1)
      have E8 := Lib.hid (HS3.out _ q8)
      have EZ := Lib.hid (HS3.out _ qZ)
      have E9 := Lib.hid (HS3.out _ q9)
      rw [hX] at happ8 E2
      rw [hZ] at happ9 EZ
      obtain ⟨Av, cv, hv⟩ := HSL.out
      rw [List.length_take, Nat.min_eq_left (by omega)] at hv
      clear hX hbX hXn hsX hoX ho8 hg8 hb8 hZ hbZ hnZ z8 zZ hs hRZ hbWZ hM hR9 hg9 q1 q8 qZ q9 hEV hbV hx0 hx1 hx2 HS3
      subst hv
      replace happ8 : (Builtin.append_ #[26, 26] 26 #[.slice (some ⟨V.heap.size, 0, none⟩) 0 0, .slice A2 y.f2.length c2]).run Try.prog (V.alloc (.cells #[] 5)).drew = .ok (.slice A8 y.f2.length c8) w8 := happ8
      go_region_held3 (fun w' => w'.cell? ⟨wr.heap.size, 0, none⟩ = some (.int .i64 y.f0) ∧ w'.cell? ⟨wr.heap.size, 1, none⟩ = some (.int .i64 y.f1) ∧ w'.cell? ⟨wr.heap.size, 2, none⟩ = some (.slice A2 y.f2.length c2))
        (first | exact E1.out | exact E2.out | exact E8.out | exact EZ.out | exact E9.out | go_keep)
        (first
          | (refine step_append_run3 rfl (.tmp 27) (.tmp 29) 26 rfl _ _ rfl rfl _ _ happ8 ?_)
          | (refine step_append_run3 rfl (.tmp 22) (.tmp 32) 22 rfl _ _ rfl rfl _ _ happ9 ?_))
      all_goals
        clear happ8 happ9
        go_wp2
        go_roundw
        case rel => exact ⟨x + 1, by omega, by go_num, by rw [HTK.out]; exact HR9.out, HB9.out⟩
        case measure => simp [intOf]; omega
    · have hxq : x = q := by omega
      subst hxq
      have hlx : L.take x = L := by rw [← hlq, List.take_length]
      rw [hlx] at hRv
      obtain ⟨Ao, co, rfl⟩ := Kd.R_slice hRv
      rw [hlq]
      rw [hlq] at hRv
      have hco := (Kd.R_reads' hRv).2.1
      have HCO := Lib.hid (show Kd.C k32 wr Ao x L by have := (Kd.R_reads' hRv).2.2; rwa [hlq] at this)
      have HBr := Lib.hid hBr
      clear hRv hBr hlx hlt
      go_wp2_with (fail)
      have hM := event_Merge.calls (x + 1) Ao co L (mrg L) wr (by rw [hlq]; exact HCO.out) (by omega) HMF.out
      rw [hlq] at hM
      refine hM.mono ?_
      clear hM
      rintro e w1 ⟨v, rfl, hS, hB1⟩
      have hR := Kd.S_R hS
      obtain ⟨Am, cm, rfl⟩ := Kd.R_slice hR
      have hMl : (mrg L).length ≤ 1048576 := by have := HMM.out; omega
      obtain ⟨M, hMM⟩ : ∃ M, M = (mrg L).length := ⟨_, rfl⟩
      rw [← hMM] at hR hMl ⊢
      clear hS
      have HR1 := Lib.hid hR
      have HB1 := Lib.hid hB1
      have hY := event_Bytes.calls 0 0 Ao co L (way 0 L) w1 (by rw [hlq]; exact Kd.C_below HCO.out hB1) (by omega) HBF.out
      rw [hlq] at hY
      have HY := Lib.hid hY
      clear hR hB1 hY hMM
      go_wp2_with (fail)
      refine HY.out.mono ?_
      clear HY
      rintro e w2 ⟨v, rfl, hRb, hB2⟩
      obtain ⟨Ab, cb, rfl⟩ := Kd.R_slice hRb
      have hob := Kd.own_of_R hRb
      have hbl : (way 0 L).length ≤ 1048576 := by have := way_le 0 L; have := HST.out; omega
      obtain ⟨N, hN⟩ : ∃ N, N = (way 0 L).length := ⟨_, rfl⟩
      rw [← hN] at hob hbl ⊢
      have HOB := Lib.hid (show w2.ownsRow wr.heap.size 5 1 (.slice Ab N cb) N (nums .u8 (way 0 L)) from own_weaken hob HB1.out.size)
      have HR2 := Lib.hid (Kd.R_below HR1.out hB2)
      have HB2 := Lib.hid (below_step HB1.out hB2)
      clear hRb hob hB2 HR1 hN
      have HFI := Lib.hid (show ∀ w, Mut wr.heap.size w2 w → Kd.C k32 w Ao x L ∧ Kd.C k32 w A x L ∧ Below W.heap.size W w from fun w h => by
        have h1 := HB2.out.trans h.below
        have h2 := below_step HBr.out h1
        exact ⟨Kd.C_below HCO.out h1, Kd.C_below HCQ.out h2, h2⟩)
      have hBs := HB2.out.size
      obtain ⟨B, hB⟩ : ∃ B, B = wr.heap.size := ⟨_, rfl⟩
      rw [← hB] at HR2 HOB HFI hBs
      clear HB1 HB2 hB HBr HCO
      go_wp2_with (fail)
      go_loopw [41] (fun i wr => ∃ y : Nat, y ≤ M ∧ i = .int .i64 y ∧ Mut B w2 wr)
        (fun i _ => M - (intOf i).toNat)
      case atStart => exact ⟨0, Nat.zero_le _, rfl, Mut.refl _ _⟩
      case round =>
        obtain ⟨y, hy, rfl, hm⟩ := hrel
        by_cases hlt : y < M
        · have hlt' := eq_true hlt
          obtain ⟨ad, A2, c2, z, hAe, hx0, hx1, hx2, ho2⟩ := hm.event HR2.out y hlt
          subst hAe
          have hzl : z.f2.length ≤ 9223372036854775807 := by
            rcases ho2.2 with ⟨he, h0⟩ | ⟨g, cap, cur, he, _, _, hn, hmx, _⟩
            · omega
            · simp only [maxLen] at hmx; omega
          have HO2 := Lib.hid ho2
          have HMu := Lib.hid hm
          clear ho2 hm
          go_upto_region 12 with (fail)
          have hbV : Below wr.heap.size wr (wr.alloc (.cells #[.int .i64 z.f0, .int .i64 z.f1, .slice A2 z.f2.length c2] 32)) := (Below.refl _ wr).alloc (Nat.le_refl _) _
          have hEV : (wr.alloc (.cells #[.int .i64 z.f0, .int .i64 z.f1, .slice A2 z.f2.length c2] 32)).heap[wr.heap.size]? = some (.cells #[.int .i64 z.f0, .int .i64 z.f1, .slice A2 z.f2.length c2] 32 (0, 0)) := World.alloc_heap_new wr _
          generalize wr.alloc (.cells #[.int .i64 z.f0, .int .i64 z.f1, .slice A2 z.f2.length c2] 32) = V at hbV hEV ⊢
          have v2 : V.cell? ⟨wr.heap.size, 2, none⟩ = some (.slice A2 z.f2.length c2) := (blk_cell hEV 2).trans rfl
          have HMV := Lib.hid (HMu.out.step hBs hbV)
          have HBx := Lib.hid (show w2.heap.size ≤ wr.heap.size from HMu.out.below.size)
          obtain ⟨Bx, hBx⟩ : ∃ Bx, Bx = wr.heap.size := ⟨_, rfl⟩
          rw [← hBx] at v2 HBx ⊢
          clear hEV hbV hBx hx0 hx1 hx2 HMu
          go_wp2_with (fail)
          go_loopw [48] (fun i wx => ∃ j : Nat, j ≤ z.f2.length ∧ i = .int .i64 j ∧ wx.cell? ⟨Bx, 2, none⟩ = some (.slice A2 z.f2.length c2) ∧ Mut B w2 wx)
            (fun i _ => z.f2.length - (intOf i).toNat)
          case atStart => exact ⟨0, Nat.zero_le _, rfl, v2, HMV.out⟩
          case round =>
            obtain ⟨j, hj, rfl, hbx, hmx⟩ := hrel
            by_cases hlj : j < z.f2.length
            · have hlj' := eq_true hlj
              obtain ⟨a2, u, hAe, hcell, hfz, hlt2, hblk, hset⟩ := hmx.byte HO2.out hlj
              subst hAe
              have HSET := Lib.hid hset
              have hne : Bx ≠ (a2.add j).block := by rw [hblk]; have := HBx.out; omega
              clear hset v2
              go_wp2
              go_roundw
              case rel => exact ⟨j + 1, by omega, by go_num, set_far hbx hne, HSET.out _⟩
              case measure => simp [intOf]; omega
            · obtain rfl : j = z.f2.length := by omega
              go_wp2
              go_roundw
              case rel => exact ⟨y + 1, by omega, by go_num, hmx⟩
              case measure => simp [intOf]; omega
        · obtain rfl : y = M := by omega
          have HMu := Lib.hid hm
          clear hm hlt
          go_wp2_with (fail)
          go_loopw [62] (fun i wx => ∃ j : Nat, j ≤ N ∧ i = .int .i64 j ∧ Mut B w2 wx)
            (fun i _ => N - (intOf i).toNat)
          case atStart => exact ⟨0, Nat.zero_le _, rfl, HMu.out⟩
          case round =>
            obtain ⟨j, hj, rfl, hmx⟩ := hrel
            by_cases hlj : j < N
            · have hlj' := eq_true hlj
              obtain ⟨a2, u, hAe, hcell, hfz, hlt2, hblk, hset⟩ := hmx.byte HOB.out hlj
              subst hAe
              have HSET := Lib.hid hset
              clear hset
              go_wp2
              go_roundw
              case rel => exact ⟨j + 1, by omega, by go_num, HSET.out _⟩
              case measure => simp [intOf]; omega
            · obtain rfl : j = N := by omega
              have HMx := Lib.hid hmx
              clear hmx hlj HMu
              go_wp2_with (fail)
              refine (cuecardlaw04_aliveT _).mono ?_
              rintro e w3 ⟨rfl, hB3⟩
              obtain ⟨hf1, hf2, hf3⟩ := HFI.out w3 (HMx.out.step hBs hB3)
              have hY := cuecardref04_Same.calls (x + 1) Ao co L A cl L true w3 (by rw [hlq]; exact hf1) (by omega) (by rw [hlq]; exact hf2) (by omega) HSF.out
              rw [hlq] at hY
              have HY := Lib.hid hY
              have HB3 := Lib.hid hf3
              clear hY hf1 hf2 hf3 hB3
              go_wp2_with (fail)
              refine HY.out.mono ?_
              rintro e w4 ⟨rfl, hB4⟩
              have HB4 := Lib.hid (below_step HB3.out hB4)
              clear hB4 HB3 HY
              go_wp2
              go_ret
              exact ⟨rfl, HB4.out⟩
end Go.Proofs.Ytdbnmccflbkcoaa.QA
