import Derived.RangeFuncNested
import Derived.RangeFuncBound
import Derived.RangeFuncCalls
import Derived.RangeFuncLeaves
import Derived.Shelf.Abstract
import Derived.Shelf.RegionOpen
import Derived.WalkKit
import Derived.OwnWalkIn
import Derived.TacticsInMore
import Derived.LoopNIn
import Derived.LoopIn
import Derived.Maps.AppendAt
import Derived.StillTailTactics
import Derived.Lib.Hide
import Derived.Lib.LazyBuf
import Derived.Outline
import Derived.Deep.RegionWith
import Derived.Deep.RegionLaw
import Derived.Deep.AppendLies
import Derived.CallsIn

import Derived.Lib.Bytes
import Derived.Deep.DeepCutAuto
import Derived.Lib.SmallJoins
import Derived.Laws.EntriesVeiled
import Derived.Deep.RegionHeld3
import Derived.BigRegion
import Derived.BigQuiet
import Derived.Test.YtpcednpkkimehaaPPl
import Derived.Test.YtpcednpkkimehaaGRf2
namespace Go.Proofs.Ytpcednpkkimehaa.QA
open Go.RowKit Go.Shelf Go.Proofs.YtpcednpkkimehaaW.PrintWords Go.Proofs.YtpcednpkkimehaaW.PrintLast Go.Proofs.YtpcednpkkimehaaW.PrintMore
attribute [local go_sem] max2_int min2_int max_two min_two max_three min_three max_four min_four   -- for this text's walks alone
set_option linter.unusedVariables false
set_option linter.unusedSimpArgs false
/-! ### PeerActs -/
/-- an append whose run is known, in a region that draws; in one that does not -/
theorem step_append_run {P : Program} {ops : Array Oper} {o : Oper} {a : Act} {W : World} {Kc : Act → World → Prop} {Q : Exit → Act → World → Prop} (hw : Region.wanted o (yielded ops a.tmps) = true) (s x : Operand) (t : TypeId)
    (ho : o.op = .call { callee := .builtin .append, args := #[s, x], argTypes := #[t, t] }) (vs vx : Value) (hs : a.eval s = vs) (hx : a.eval x = vx) (v1 : Value) (w1 : World) (hr : (Builtin.append_ #[t, t] o.type #[vs, vx]).run P W = .ok v1 w1)
    (h : Kc (a.put o.dst v1) w1) : if Region.wanted o (yielded ops a.tmps) = true then Oper.wp P o a W Kc Q else Kc (a.put o.dst undef) W := by
  rw [if_pos hw]
  unfold Oper.wp execOp
  simp only [ho, resolve, invoke, builtin, Sem.run_bind, Sem.run_pure, Result.andThen_ok, List.map_toArray, List.map_cons, List.map_nil, hs, hx, hr]
  exact h
theorem list_append_run {P : Program} {ops : Array Oper} {rest : List Oper} {o : Oper} {a : Act} {W : World} {Q : Exit → Act → World → Prop} (hg : o.guard = none) (s x : Operand) (t : TypeId)
    (ho : o.op = .call { callee := .builtin .append, args := #[s, x], argTypes := #[t, t] }) (vs vx : Value) (hs : a.eval s = vs) (hx : a.eval x = vx) (v1 : Value) (w1 : World) (hr : (Builtin.append_ #[t, t] o.type #[vs, vx]).run P W = .ok v1 w1)
    (h : wpList P ops Q rest (a.put o.dst v1) w1) : wpList P ops Q (o :: rest) a W := by
  refine wpList_plain hg fun K hK => ?_
  unfold Oper.wp execOp
  simp only [ho, resolve, invoke, builtin, Sem.run_bind, Sem.run_pure, Result.andThen_ok, List.map_toArray, List.map_cons, List.map_nil, hs, hx, hr]
  exact hK _ _ h
theorem acts_app {W w7 w9 : World} {l : List S40} {fin : Bool} {a : Pa} {p2 p3 M c c5 said T cl : Nat} {A Ai : Option Addr} {s' : Pz} {vh v9 : Value} {hs' : List Int}
    (hp : PeAt w7 (fun k => p2 ≤ k ∧ k < p3 ∧ k ≠ a.B) a (Pc.of l fin) s') (hr : RfAt w7 ⟨M, A, cl⟩ l fin said vh) (ht : TrAt w7 T A l.length cl fin) (hf : Kd.F (Kd.int .u8) w7 (fun k => c5 ≤ k ∧ k < c) Ai (way 1 l).length (way 1 l)) (hb : Below W.heap.size W w7)
    (hg : w7.grownBy w9 vh.ownBlock) (hob : ∀ k, vh.ownBlock = some k → c ≤ k) (hR : Kd.R (Kd.int .u8) 5 w9 c (fun _ => True) v9 hs') (haC : a.B < c) (hMc : M < c) (hTM : T < M) (hp3 : p3 ≤ M) (hWT : W.heap.size ≤ T) (haM : a.B < M) (hM5 : M < c5) (hc : c ≤ w7.heap.size) :
    PeAt (w9.setCell ⟨M, 3, none⟩ v9) (fun k => p2 ≤ k ∧ k < p3 ∧ k ≠ a.B) a (Pc.of l fin) s' ∧ RfAt (w9.setCell ⟨M, 3, none⟩ v9) ⟨M, A, cl⟩ l fin said v9 ∧ Kd.R (Kd.int .u8) 5 (w9.setCell ⟨M, 3, none⟩ v9) c (fun _ => True) v9 hs' ∧ TrAt (w9.setCell ⟨M, 3, none⟩ v9) T A l.length cl fin ∧ Kd.F (Kd.int .u8) (w9.setCell ⟨M, 3, none⟩ v9) (fun k => c5 ≤ k ∧ k < c) Ai (way 1 l).length (way 1 l) ∧ Below W.heap.size W (w9.setCell ⟨M, 3, none⟩ v9) ∧ c ≤ (w9.setCell ⟨M, 3, none⟩ v9).heap.size := by
  have hr9 := hr.grown hg (fun e => by have h5 := hob _ e.symm; have h5 : c ≤ M := h5; omega)
  obtain ⟨hr10, hg10⟩ := hr9.heard_ v9
  have hb9 := hb.grown hg hb.size (fun k hk => by have := hob k hk; omega)
  have z9 := hg.size
  have z10 := hg10.size
  refine ⟨(hp.grown hg (fun e => by have h5 := hob _ e.symm; omega) (fun k hk e => by have h5 := hob _ e.symm; have h6 : k < p3 := hk.2.1; omega)).grown hg10 (fun e => by injection e with e; have e : a.B = M := e; omega) (fun k hk e => by injection e with e; have e : k = M := e; have h6 : k < p3 := hk.2.1; omega), hr10, Kd.R_set hR hr9.blk (by decide) 3 _, (ht.grown hg (fun e => by have h5 := hob _ e.symm; omega)).grown hg10 (fun e => by injection e with e; have e : T = M := e; omega),
    Kd.F_grown (Kd.F_grown hf hg (fun k hk e => by have h5 := hob _ e.symm; have h6 : k < c := hk.2; omega)) hg10 (fun k hk e => by injection e with e; have e : k = M := e; have h6 : c5 ≤ k := hk.1; omega), hb9.grown hg10 hb9.size (fun k hk => by injection hk with hk; have hk : M = k := hk; omega), Nat.le_trans hc (Nat.le_trans z9 z10)⟩
set_option maxRecDepth 100000 in
set_option maxHeartbeats 8000000 in
theorem peerActs_walk (l : List S40) (hl : small l) (fin : Bool) (A : Option Addr) (cl : Nat) (acts : List S42) (Aa : Option Addr) (ca : Nat) (W : World) (hC : Kd.C k40 W A l.length l) (hc : l.length ≤ cl) (hA : Kd.C k42 W Aa acts.length acts) (hca : acts.length ≤ ca) :
    Calls Try.prog 7 #[.agg #[.slice A l.length cl, .bool fin], .slice Aa acts.length ca] W fun e W' => e = .returned (.bool true) ∧ Below W.heap.size W W' := by
  have hk := refcheck_f l hl (k := 2 * l.length + 1) (Nat.le_refl _)
  rw [show (if 4096 < l.length then (10 : Int) else chk l 0) = chkN l from rfl] at hk
  have hs := small_tot hl
  have hT : TrAt (W.alloc (.cells #[.slice A l.length cl, .bool fin] 24)) W.heap.size A l.length cl fin := World.alloc_heap_new W _
  have hBW : Below W.heap.size W (W.alloc (.cells #[.slice A l.length cl, .bool fin] 24)) := (Below.refl _ W).alloc (Nat.le_refl _) _
  have hCW := Kd.C_below hC hBW
  have hAW := Kd.C_below hA hBW
  have HW := Lib.hid (show (W.alloc (.cells #[.slice A l.length cl, .bool fin] 24)).heap.size = W.heap.size + 1 by simp)
  generalize hW0 : W.alloc (.cells #[.slice A l.length cl, .bool fin] 24) = W0 at hT hBW hCW hAW HW
  have HAW := Lib.hid hAW
  have HA := Lib.hid hA
  have HC0 := Lib.hid hC
  have HK := Lib.hid hk
  have HT := Lib.hid hT
  have HC := Lib.hid hCW
  have HB := Lib.hid hBW
  have HS := Lib.hid hs
  have HW0 := Lib.hid hW0
  clear hk hT hCW hBW hs hW0 hC hA hAW
  obtain ⟨gr, hgr, hgr2⟩ := great_f l acts
  have HG := Lib.hid hgr
  clear hgr
  cases gr with
  | true =>
    clear hgr2
    go_enter Try.func7, Try.ntmps7
    go_wp2_with (fail)
    rw [HW0.out]
    refine (cuecardlaw20_aliveT W0).mono ?_
    rintro e w1 ⟨rfl, hB1⟩
    have c0 := (HT.out.below hB1).c0
    go_wp2_with (fail)
    refine (cuecardlaw20_great.calls _ A cl l Aa ca acts true _ (Kd.C_below HC.out hB1) hc (Kd.C_below HAW.out hB1) hca HG.out).mono ?_
    rintro e w2 ⟨rfl, hB2⟩
    go_wp2_with (fail)
    refine (cuecardlaw20_aliveT w2).mono ?_
    rintro e w3 ⟨rfl, hB3⟩
    go_wp2
    go_ret
    exact ⟨rfl, below_step (below_step (below_step HB.out hB1) hB2) hB3⟩
  | false =>
    obtain ⟨hacts, h60, hb100⟩ := hgr2 rfl
    have HB100 := Lib.hid hb100
    clear hgr2 hb100
    have HN := Lib.hid (fun W => new_c l hl fin A cl W)
    by_cases hz : chkN l = 0
    · have HK' := Lib.hid (hz ▸ HK.out)
      have HRI := Lib.hid (refbytes_f 1 l hl (l.length + 1) (by omega))
      rw [hz] at HN
      clear HK hz
      go_enter Try.func7, Try.ntmps7
      go_wp2_with (fail)
      rw [HW0.out]
      refine (cuecardlaw20_aliveT W0).mono ?_
      rintro e w1 ⟨rfl, hB1⟩
      have c0 := (HT.out.below hB1).c0
      go_wp2_with (fail)
      refine (cuecardlaw20_great.calls _ A cl l Aa ca acts false _ (Kd.C_below HC.out hB1) hc (Kd.C_below HAW.out hB1) hca HG.out).mono ?_
      rintro e w2 ⟨rfl, hBg⟩
      have HB2 := Lib.hid (below_step hB1 hBg)
      have HT2 := Lib.hid (HT.out.below HB2.out)
      have HC2 := Lib.hid (Kd.C_below HC.out HB2.out)
      have HBW2 := Lib.hid (below_step HB.out HB2.out)
      clear c0 hB1 hBg HT HC HB HB2 HAW
      have c0 := HT2.out.c0
      have c1 := HT2.out.c1
      go_wp2_with (fail)
      refine (HN.out w2 HC2.out hc).mono ?_
      clear c0 c1
      rintro e w3 ⟨left, h⟩
      obtain ⟨a, rfl, hP, haB, hb3⟩ := h trivial
      clear h HN left
      have HP3 := Lib.hid hP
      have HT3 := Lib.hid (HT2.out.below hb3)
      have HC3 := Lib.hid (Kd.C_below HC2.out hb3)
      have HBW3 := Lib.hid (below_step HBW2.out hb3)
      have HaT := Lib.hid (show W.heap.size < a.B by have := (Array.getElem?_eq_some_iff.1 HT2.out).1; omega)
      have HaL := Lib.hid hP.lt
      clear hP haB hb3 HT2 HC2 HBW2
      have c0 := HT3.out.c0
      go_wp2_with (fail)
      refine (cuecardref04_Check.calls _ A cl l 0 _ HC3.out hc HK'.out).mono ?_
      rintro e w4 ⟨rfl, hB4⟩
      clear c0
      have HP4 := Lib.hid (HP3.out.below hB4)
      have HT4 := Lib.hid (HT3.out.below hB4)
      have HC4 := Lib.hid (Kd.C_below HC3.out hB4)
      have HBW4 := Lib.hid (below_step HBW3.out hB4)
      have HX4 := Lib.hid hB4.size
      clear hB4 HP3 HT3 HC3 HBW3
      have c0 := HT4.out.c0
      have c1 := HT4.out.c1
      have hBM : Below w4.heap.size w4 (w4.alloc (.cells #[.slice A l.length cl, .bool fin, .int .i64 0, .slice none 0 0] 50)) := (Below.refl _ w4).alloc (Nat.le_refl _) _
      have hM : (w4.alloc (.cells #[.slice A l.length cl, .bool fin, .int .i64 0, .slice none 0 0] 50)).heap[w4.heap.size]? = some (.cells #[.slice A l.length cl, .bool fin, .int .i64 0, .slice none 0 0] 50 (0, 0)) := World.alloc_heap_new w4 _
      have hsM : (w4.alloc (.cells #[.slice A l.length cl, .bool fin, .int .i64 0, .slice none 0 0] 50)).heap.size = w4.heap.size + 1 := by simp
      have hTM := HT4.out.below hBM
      have c0' := hTM.c0
      go_wp2_with (fail)
      clear c0 c1 c0'
      generalize w4.alloc (.cells #[.slice A l.length cl, .bool fin, .int .i64 0, .slice none 0 0] 50) = W5 at hBM hM hsM hTM ⊢
      have HRf5 := Lib.hid (show RfAt W5 ⟨w4.heap.size, A, cl⟩ l fin 0 (.slice none 0 0) from ⟨hM⟩)
      have HP5 := Lib.hid (HP4.out.below hBM)
      have HT5 := Lib.hid hTM
      have HC5 := Lib.hid (Kd.C_below HC4.out hBM)
      have HBW5 := Lib.hid (below_step HBW4.out hBM)
      have HS5 := Lib.hid hsM
      clear hBM hM hsM hTM HP4 HT4 HC4 HBW4
      refine (cuecardref04_Bytes.calls (l.length + 1) 1 A cl l (way 1 l) _ HC5.out hc HRI.out).mono ?_
      rintro e wc ⟨v, rfl, hRi, hB6⟩
      obtain ⟨Ai, ci, rfl⟩ := Kd.R_slice hRi
      have hci := (Kd.R_reads' hRi).2.1
      have HFi := Lib.hid (Kd.F_mono (Kd.R_F (Kd.R_bound hRi)) (fun k hk => (⟨hk.2.1, hk.2.2.1⟩ : W5.heap.size ≤ k ∧ k < wc.heap.size)))
      have HP6 := Lib.hid (HP5.out.below hB6)
      have HRf6 := Lib.hid (HRf5.out.below hB6)
      have HT6 := Lib.hid (HT5.out.below hB6)
      have HBW6 := Lib.hid (below_step HBW5.out hB6)
      have HSc := Lib.hid hB6.size
      clear hRi hB6 HP5 HRf5 HT5 HC5 HBW5
      have HaM := Lib.hid (show a.B < w4.heap.size by have := HaL.out; have := HX4.out; omega)
      have HTM := Lib.hid (show W.heap.size < w4.heap.size by have := HaM.out; have := HaT.out; omega)
      obtain ⟨c, hcdef⟩ : ∃ c, c = wc.heap.size := ⟨_, rfl⟩
      have HMc := Lib.hid (show w4.heap.size < c by have := HSc.out; have := HS5.out; omega)
      have HCd := Lib.hid hcdef
      rw [← hcdef] at HFi
      go_wp2_with (fail)
      go_loopw [53] (fun i wr => ∃ (x : Nat) (s : Pz) (hs : List Int) (Ah : Option Addr) (ch : Nat), x ≤ acts.length ∧ i = .int .i64 x ∧ s.said ≤ due s.heard 0 0 (mrg l) ∧ s.heard ≤ x * 1000 ∧ s.heard = hs.length ∧ s.right = isBeg (way 1 l) hs ∧ PeAt wr (fun k => w2.heap.size ≤ k ∧ k < w3.heap.size ∧ k ≠ a.B) a (Pc.of l fin) s ∧ RfAt wr ⟨w4.heap.size, A, cl⟩ l fin s.said (.slice Ah hs.length ch) ∧ Kd.R (Kd.int .u8) 5 wr c (fun _ => True) (.slice Ah hs.length ch) hs ∧ TrAt wr W.heap.size A l.length cl fin ∧ Kd.F (Kd.int .u8) wr (fun k => W5.heap.size ≤ k ∧ k < c) Ai (way 1 l).length (way 1 l) ∧ Below W.heap.size W wr ∧ c ≤ wr.heap.size)
        (fun i _ => acts.length - (intOf i).toNat)
      case atStart => exact ⟨0, ⟨0, 0, true⟩, [], none, 0, Nat.zero_le _, rfl, Nat.zero_le _, Nat.zero_le _, rfl, by simp [isBeg], HP6.out, HRf6.out, Kd.R_nil _ _ _ _ _, HT6.out, HFi.out, HBW6.out, by rw [HCd.out]; exact Nat.le_refl _⟩
      case round =>
        obtain ⟨x, s, hs, Ah, ch, hx, rfl, hsd, hsh, hhl, hrt, hPr, hRf, hRh, hTr, hFr, hBr, hcw⟩ := hrel
        have HPr := Lib.hid hPr
        have HRf := Lib.hid hRf
        have HRh := Lib.hid hRh
        have HTr := Lib.hid hTr
        have HFr := Lib.hid hFr
        have HBr := Lib.hid hBr
        have HSd := Lib.hid hsd
        have HSh := Lib.hid hsh
        have HHl := Lib.hid hhl
        have HRt := Lib.hid hrt
        have HCw := Lib.hid hcw
        clear hPr hRf hRh hTr hFr hBr hsd hsh hhl hrt hcw HP6 HRf6 HT6 HFi HBW6
        by_cases hlt : x < acts.length
        · have hlt' := eq_true hlt
          obtain ⟨ad, A2, c2, hAe, hx0, hx1, hx2, hl2, hC2⟩ := at_T42 HA.out (x : Int) (by omega) (by omega)
          subst hAe
          rw [Int.toNat_natCast] at hx0 hx1 hx2
          replace hx0 := pw_cell_below HBr.out hx0
          replace hx1 := pw_cell_below HBr.out hx1
          replace hx2 := pw_cell_below HBr.out hx2
          have hmem : (rd_T42 acts (x : Int)).f2.length ≤ 100 := by
            unfold rd_T42
            rw [Int.toNat_natCast, List.getD_eq_getElem?_getD, List.getElem?_eq_getElem hlt]
            exact HB100.out _ (List.getElem_mem hlt)
          generalize rd_T42 acts (x : Int) = y at hx0 hx1 hx2 hl2 hC2 hmem
          have HF2 := Lib.hid (Kd.C_F (Kd.heap_int _) hC2)
          clear hC2 hcdef
          go_upto_block 2 with (fail)
          have hbV : Below wr.heap.size wr (wr.alloc (.cells #[.int .i64 y.f0, .int .i64 y.f1, .slice A2 y.f2.length c2] 42)) := (Below.refl _ wr).alloc (Nat.le_refl _) _
          have hEV : (wr.alloc (.cells #[.int .i64 y.f0, .int .i64 y.f1, .slice A2 y.f2.length c2] 42)).heap[wr.heap.size]? = some (.cells #[.int .i64 y.f0, .int .i64 y.f1, .slice A2 y.f2.length c2] 42 (0, 0)) := World.alloc_heap_new wr _
          generalize wr.alloc (.cells #[.int .i64 y.f0, .int .i64 y.f1, .slice A2 y.f2.length c2] 42) = V at hbV hEV ⊢
          have HPv := Lib.hid (HPr.out.below hbV)
          have HRv := Lib.hid (HRf.out.below hbV)
          have HHv := Lib.hid (Kd.R_below HRh.out hbV)
          have HTv := Lib.hid (HTr.out.below hbV)
          have HFv := Lib.hid (Kd.F_below HFr.out hbV)
          have HBv := Lib.hid (below_step HBr.out hbV)
          have HCv := Lib.hid (Kd.F_now (Kd.F_below HF2.out HBv.out))
          have HVw := Lib.hid hbV.size
          have HD := Lib.hid (due_out (s.heard : Int) l)
          have HL := Lib.hid (show (way 0 l).length ≤ 1048576 ∧ (way 1 l).length ≤ 1048576 by have := way_le 0 l; have := way_le 1 l; have := HS.out; omega)
          have v0 : V.cell? ⟨wr.heap.size, 0, none⟩ = some (.int .i64 y.f0) := (blk_cell hEV 0).trans rfl
          have v1 : V.cell? ⟨wr.heap.size, 1, none⟩ = some (.int .i64 y.f1) := (blk_cell hEV 1).trans rfl
          have v2 : V.cell? ⟨wr.heap.size, 2, none⟩ = some (.slice A2 y.f2.length c2) := (blk_cell hEV 2).trans rfl
          have HD2 := Lib.hid (show due' (s.heard : Int) 0 0 l = due (s.heard : Int) 0 0 (mrg l) from (due_mrg _ l).symm)
          have HCl := Lib.hid (Kd.C_below HC0.out HBv.out)
          have HD3 := Lib.hid (show due' ((hs.length : Nat) : Int) 0 0 l = due (s.heard : Int) 0 0 (mrg l) by rw [← HHl.out]; exact HD2.out)
          have HPK := Lib.hid (show ∀ n, rpeek l s.said (due (s.heard : Int) 0 0 (mrg l)) n = s.peek (Pc.of l fin) n from fun n => by rw [due_mrg]; exact rpeek_eq l fin s n)
          have HaC := Lib.hid (show a.B < c by have := HaM.out; have := HMc.out; omega)
          have HPd := Lib.hid HPv.out.drew
          have HBd := Lib.hid (below_drew HBv.out)
          have HaE := Lib.hid (show a.B < wr.heap.size by have := HaC.out; have := HCw.out; omega)
          have HME := Lib.hid (show w4.heap.size < wr.heap.size by have := HMc.out; have := HCw.out; omega)
          have d1 : V.drew.cell? ⟨wr.heap.size, 1, none⟩ = some (.int .i64 y.f1) := v1
          clear hbV hEV HPr HRf HRh HTr HFr HBr hx0 hx1 hx2
          go_cut [59] (fun s59 wx => ∃ (s' : Pz) (hs' : List Int) (Ah' : Option Addr) (ch' : Nat), s'.said ≤ due s'.heard 0 0 (mrg l) ∧ s'.heard ≤ (x + 1) * 1000 ∧ s'.heard = hs'.length ∧ s'.right = isBeg (way 1 l) hs' ∧ PeAt wx (fun k => w2.heap.size ≤ k ∧ k < w3.heap.size ∧ k ≠ a.B) a (Pc.of l fin) s' ∧ RfAt wx ⟨w4.heap.size, A, cl⟩ l fin s'.said (.slice Ah' hs'.length ch') ∧ Kd.R (Kd.int .u8) 5 wx c (fun _ => True) (.slice Ah' hs'.length ch') hs' ∧ TrAt wx W.heap.size A l.length cl fin ∧ Kd.F (Kd.int .u8) wx (fun k => W5.heap.size ≤ k ∧ k < c) Ai (way 1 l).length (way 1 l) ∧ Below W.heap.size W wx ∧ c ≤ wx.heap.size)
          case first =>
            by_cases k0 : y.f0 = 0
            · have k0b : (y.f0 == 0) = true := beq_iff_eq.mpr k0
              clear k0
              go_upto_region 16 with (fail)
              go_cut [71] (fun s71 wx => s71 = .bool false ∧ ∃ (s' : Pz) (hs' : List Int) (Ah' : Option Addr) (ch' : Nat), s'.said ≤ due s'.heard 0 0 (mrg l) ∧ s'.heard ≤ (x + 1) * 1000 ∧ s'.heard = hs'.length ∧ s'.right = isBeg (way 1 l) hs' ∧ PeAt wx (fun k => w2.heap.size ≤ k ∧ k < w3.heap.size ∧ k ≠ a.B) a (Pc.of l fin) s' ∧ RfAt wx ⟨w4.heap.size, A, cl⟩ l fin s'.said (.slice Ah' hs'.length ch') ∧ Kd.R (Kd.int .u8) 5 wx c (fun _ => True) (.slice Ah' hs'.length ch') hs' ∧ TrAt wx W.heap.size A l.length cl fin ∧ Kd.F (Kd.int .u8) wx (fun k => W5.heap.size ≤ k ∧ k < c) Ai (way 1 l).length (way 1 l) ∧ Below W.heap.size W wx ∧ c ≤ wx.heap.size)
              case first =>
                have C2 := peer_Say HPd.out (small_mrg hl) HSd.out HD.out HL.out.1 y.f1
                have hyl := peek_len (c := Pc.of l fin) (s := s) HD.out y.f1
                have CM := fun (w7 : World) (hr : RfAt w7 ⟨w4.heap.size, A, cl⟩ l fin s.said (.slice Ah hs.length ch)) (hC : Kd.C k40 w7 A l.length l) => ref_Say hr hC hc hl HD3.out HD.out HSd.out y.f1
                simp only [HPK.out] at CM
                unfold Pz.say at C2
                generalize s.peek (Pc.of l fin) y.f1 = ys at C2 hyl CM
                replace hyl : ys.length ≤ due (s.heard : Int) 0 0 (mrg l) - s.said := hyl
                have HC2 := Lib.hid C2
                have HYl := Lib.hid hyl
                have HCM := Lib.hid CM
                have HFIN := Lib.hid (show ∀ w7 wx, PeAt w7 (fun k => w2.heap.size ≤ k ∧ k < w3.heap.size ∧ k ≠ a.B) a (Pc.of l fin) ⟨s.said + ys.length, s.heard, s.right⟩ → V.drew.grownBy w7 (some a.B) → RfAt wx ⟨w4.heap.size, A, cl⟩ l fin (s.said + ys.length) (.slice Ah hs.length ch) → w7.grownBy wx (some w4.heap.size) → ∃ (s' : Pz) (hs' : List Int) (Ah' : Option Addr) (ch' : Nat), s'.said ≤ due s'.heard 0 0 (mrg l) ∧ s'.heard ≤ (x + 1) * 1000 ∧ s'.heard = hs'.length ∧ s'.right = isBeg (way 1 l) hs' ∧ PeAt wx (fun k => w2.heap.size ≤ k ∧ k < w3.heap.size ∧ k ≠ a.B) a (Pc.of l fin) s' ∧ RfAt wx ⟨w4.heap.size, A, cl⟩ l fin s'.said (.slice Ah' hs'.length ch') ∧ Kd.R (Kd.int .u8) 5 wx c (fun _ => True) (.slice Ah' hs'.length ch') hs' ∧ TrAt wx W.heap.size A l.length cl fin ∧ Kd.F (Kd.int .u8) wx (fun k => W5.heap.size ≤ k ∧ k < c) Ai (way 1 l).length (way 1 l) ∧ Below W.heap.size W wx ∧ c ≤ wx.heap.size from fun w7 wx p7 g7 r8 g8 => by
                  have h7 : V.grownBy w7 (some a.B) := ⟨g7.os, g7.tape, g7.output, g7.size, g7.block⟩
                  have hb7 := HBv.out.grown h7 HBv.out.size (fun k hk => by injection hk with hk; have := HaT.out; omega)
                  have z7 := h7.size
                  have z8 := g8.size
                  have := HCw.out; have := HVw.out; have := HaC.out; have := HMc.out; have := HTM.out; have := HaT.out; have := HaM.out; have := HaL.out; have := HX4.out; have := HS5.out
                  refine ⟨⟨s.said + ys.length, s.heard, s.right⟩, hs, Ah, ch, by have := HSd.out; show s.said + ys.length ≤ due (s.heard : Int) 0 0 (mrg l); omega, by have := HSh.out; show s.heard ≤ (x + 1) * 1000; omega, HHl.out, HRt.out, ?_, r8, ?_, ?_, ?_, ?_, by omega⟩
                  · exact p7.grown g8 (fun e => by injection e with e; omega) (fun k hk e => by injection e with e; omega)
                  · exact Kd.R_mono (Kd.R_grown (Kd.R_grown (Kd.R_bound HHv.out) h7 (fun k hk e => by injection e with e; have h5 : c ≤ k := hk.2.1; omega)) g8 (fun k hk e => by injection e with e; have h5 : c ≤ k := hk.2.1; omega)) (fun _ _ => trivial)
                  · exact (HTv.out.grown h7 (fun e => by injection e with e; omega)).grown g8 (fun e => by injection e with e; omega)
                  · exact Kd.F_grown (Kd.F_grown HFv.out h7 (fun k hk e => by injection e with e; omega)) g8 (fun k hk e => by injection e with e; omega)
                  · exact hb7.grown g8 hb7.size (fun k hk => by injection hk with hk; omega))
                clear C2 hyl CM v0 v1 v2
                go_region_with (first
                  | (go_at_call 14; refine HC2.out.mono ?_; rintro e w7 ⟨v, rfl, hR, hp7, hg7⟩; have hcv7 := own_string (P := Try.prog) Try.underlying31 Try.underlying5 Try.underlying9 (Kd.own_of_R hR); obtain ⟨Av, cv, rfl⟩ := Kd.R_slice hR; have HRy := Lib.hid (Kd.R_bound hR); have HP7 := Lib.hid hp7; have HG7 := Lib.hid hg7; have n7 := (World.cell?_of_block (a := ⟨wr.heap.size, 1, none⟩) (w' := w7) (hg7.block wr.heap.size (World.block_lt_of_cell? _ _ d1) (fun e => by injection e with e; have := HaE.out; omega))).trans d1; have HRf7 := Lib.hid (HRv.out.drew.grown hg7 (fun e => by injection e with e; have := HaM.out; have e : w4.heap.size = a.B := e; omega)); clear hR hp7 hg7)
                  | (go_at_call 22; refine (HCM.out w7 HRf7.out (Kd.C_below HC0.out (HBd.out.grown HG7.out HBd.out.size (fun k hk => by injection hk with hk; have := HaT.out; omega)))).mono ?_; rintro e w8 ⟨A', c', rfl, hF, hr8, hg8⟩; have hcv8m := Kd.C_string (P := Try.prog) (A := A') (c := c') Try.underlying31 Try.underlying5 Try.underlying9 (Kd.F_now hF); have hcv8 := own_string (P := Try.prog) Try.underlying31 Try.underlying5 Try.underlying9 (Kd.own_of_R (Kd.R_grown HRy.out hg8 (fun k hk e => by injection e with e; have := hk.2.1; have := HME.out; have := HVw.out; have e : k = w4.heap.size := e; have h5 : V.heap.size ≤ k := hk.2.1; omega))); have n8 := (World.cell?_of_block (a := ⟨wr.heap.size, 1, none⟩) (w' := w8) (hg8.block wr.heap.size (World.block_lt_of_cell? _ _ n7) (fun e => by injection e with e; have := HME.out; have e : wr.heap.size = w4.heap.size := e; omega))).trans n7; have HRf8 := Lib.hid hr8; have HG8 := Lib.hid hg8; clear hF hr8 hg8))
                all_goals
                  go_wp2_with (fail)
                  go_meet
                  exact ⟨by simp, HFIN.out _ _ HP7.out HG7.out HRf8.out HG8.out⟩
              case rest =>
                obtain ⟨rfl, hcut⟩ := hcut
                have HCUT := Lib.hid hcut
                clear hcut v0 v1 v2 k0b d1
                go_wp2_with (fail)
                go_meet
                exact HCUT.out
            · have k0b : (y.f0 == 0) = false := beq_eq_false_iff_ne.mpr k0
              by_cases k1 : y.f0 = 1
              · have k1b : (y.f0 == 1) = true := beq_iff_eq.mpr k1
                clear k0 k1
                go_upto_region 19 with (fail)
                go_cut [84] (fun s84 wx => s84 = .bool false ∧ ∃ (s' : Pz) (hs' : List Int) (Ah' : Option Addr) (ch' : Nat), s'.said ≤ due s'.heard 0 0 (mrg l) ∧ s'.heard ≤ (x + 1) * 1000 ∧ s'.heard = hs'.length ∧ s'.right = isBeg (way 1 l) hs' ∧ PeAt wx (fun k => w2.heap.size ≤ k ∧ k < w3.heap.size ∧ k ≠ a.B) a (Pc.of l fin) s' ∧ RfAt wx ⟨w4.heap.size, A, cl⟩ l fin s'.said (.slice Ah' hs'.length ch') ∧ Kd.R (Kd.int .u8) 5 wx c (fun _ => True) (.slice Ah' hs'.length ch') hs' ∧ TrAt wx W.heap.size A l.length cl fin ∧ Kd.F (Kd.int .u8) wx (fun k => W5.heap.size ≤ k ∧ k < c) Ai (way 1 l).length (way 1 l) ∧ Below W.heap.size W wx ∧ c ≤ wx.heap.size)
                case first =>
                  have CM := fun (w7 : World) (hr : RfAt w7 ⟨w4.heap.size, A, cl⟩ l fin s.said (.slice Ah hs.length ch)) (hC : Kd.C k40 w7 A l.length l) => ref_Peek hr hC hc hl HD3.out HD.out HSd.out y.f1
                  have C2 := peer_Peek HPd.out (small_mrg hl) HSd.out HD.out HL.out.1 y.f1
                  simp only [HPK.out] at CM
                  generalize s.peek (Pc.of l fin) y.f1 = ys at C2 CM
                  have HC2 := Lib.hid C2
                  have HCM := Lib.hid CM
                  have HFIN := Lib.hid (show ∀ w7 wx, Below V.drew.heap.size V.drew w7 → Below w7.heap.size w7 wx → ∃ (s' : Pz) (hs' : List Int) (Ah' : Option Addr) (ch' : Nat), s'.said ≤ due s'.heard 0 0 (mrg l) ∧ s'.heard ≤ (x + 1) * 1000 ∧ s'.heard = hs'.length ∧ s'.right = isBeg (way 1 l) hs' ∧ PeAt wx (fun k => w2.heap.size ≤ k ∧ k < w3.heap.size ∧ k ≠ a.B) a (Pc.of l fin) s' ∧ RfAt wx ⟨w4.heap.size, A, cl⟩ l fin s'.said (.slice Ah' hs'.length ch') ∧ Kd.R (Kd.int .u8) 5 wx c (fun _ => True) (.slice Ah' hs'.length ch') hs' ∧ TrAt wx W.heap.size A l.length cl fin ∧ Kd.F (Kd.int .u8) wx (fun k => W5.heap.size ≤ k ∧ k < c) Ai (way 1 l).length (way 1 l) ∧ Below W.heap.size W wx ∧ c ≤ wx.heap.size from fun w7 wx g7 g8 => by
                    have h7 : Below V.heap.size V w7 := ⟨g7.os, g7.tape, g7.output, g7.size, g7.block⟩
                    have h8 := below_step h7 g8
                    exact ⟨s, hs, Ah, ch, HSd.out, by have := HSh.out; omega, HHl.out, HRt.out, HPv.out.below h8, HRv.out.below h8, Kd.R_below HHv.out h8, HTv.out.below h8, Kd.F_below HFv.out h8, below_step HBv.out h8, Nat.le_trans (Nat.le_trans HCw.out HVw.out) h8.size⟩)
                  clear C2 CM v0 v1 v2
                  go_region_with (first
                    | (go_at_call 23; refine HC2.out.mono ?_; rintro e w7 ⟨v, rfl, hR, hg7⟩; have hcv7 := own_string (P := Try.prog) Try.underlying31 Try.underlying5 Try.underlying9 (Kd.own_of_R hR); obtain ⟨Av, cv, rfl⟩ := Kd.R_slice hR; have HRy := Lib.hid hR; have HG7 := Lib.hid hg7; have n7 := pw_cell_below hg7 d1; have HRf7 := Lib.hid (HRv.out.drew.below hg7); clear hR hg7)
                    | (go_at_call 24; refine (HCM.out w7 HRf7.out (Kd.C_below HC0.out (below_step HBv.out ⟨HG7.out.os, HG7.out.tape, HG7.out.output, HG7.out.size, HG7.out.block⟩))).mono ?_; rintro e w8 ⟨A', c', rfl, hF, hg8⟩; have hcv8m := Kd.C_string (P := Try.prog) (A := A') (c := c') Try.underlying31 Try.underlying5 Try.underlying9 (Kd.F_now hF); have hcv8 := own_string (P := Try.prog) Try.underlying31 Try.underlying5 Try.underlying9 (Kd.own_of_R (Kd.R_below HRy.out hg8)); have n8 := pw_cell_below hg8 n7; have HG8 := Lib.hid hg8; clear hF hg8))
                  all_goals
                    go_wp2_with (fail)
                    go_meet
                    exact ⟨by simp, HFIN.out _ _ HG7.out HG8.out⟩
                case rest =>
                  obtain ⟨rfl, hcut⟩ := hcut
                  have HCUT := Lib.hid hcut
                  clear hcut v0 v1 v2 k0b k1b d1
                  go_wp2_with (fail)
                  go_meet
                  exact HCUT.out
              · have k1b : (y.f0 == 1) = false := beq_eq_false_iff_ne.mpr k1
                by_cases k2 : y.f0 = 2
                · have k2b : (y.f0 == 2) = true := beq_iff_eq.mpr k2
                  have C4 := peer_Hear HPv.out HL.out.2 (show s.heard ≤ 4294967296 by have := HSh.out; omega) A2 c2 y.f2 HCv.out (by omega)
                  have HC4 := Lib.hid C4
                  clear C4 k0 k1 k2
                  go_wp2_with (fail)
                  refine HC4.out.mono ?_
                  rintro e w7 ⟨⟨v, rfl⟩, hp7, hg7⟩
                  have hz7 := hp7.lt
                  have HB7 := Lib.hid (HBv.out.grown hg7 HBv.out.size (fun k hk => by injection hk with hk; have := HaT.out; omega))
                  have HP7 := Lib.hid hp7
                  have hr7 := HRv.out.grown hg7 (fun e => by injection e with e; have := HaM.out; have e : w4.heap.size = a.B := e; omega)
                  have HR7 := Lib.hid hr7
                  have HH7 := Lib.hid (Kd.R_mono (ok' := fun _ => True) (Kd.R_grown (Kd.R_bound HHv.out) hg7 (fun k hk e => by injection e with e; have h5 : c ≤ k := hk.2.1; have := HaC.out; omega)) (fun _ _ => trivial))
                  have HT7 := Lib.hid (HTv.out.grown hg7 (fun e => by injection e with e; have := HaT.out; omega))
                  have HF7 := Lib.hid (Kd.F_grown HFv.out hg7 (fun k hk e => by injection e with e; have := HaM.out; have := HS5.out; omega))
                  have HZ7 := Lib.hid (show c ≤ w7.heap.size by have := hg7.size; have := HCw.out; have := HVw.out; omega)
                  have n2 := (World.cell?_of_block (a := ⟨wr.heap.size, 2, none⟩) (w' := w7) (hg7.block wr.heap.size (World.block_lt_of_cell? _ _ v2) (fun e => by injection e with e; have := HaE.out; omega))).trans v2
                  have m3 := hr7.cells.2.2.2
                  obtain ⟨v9, w9, happ, hR9, hg9, A9, c9, hv9⟩ := append_c (W := w7.drew) (c := c2) (Kd.R_drew HH7.out) (Kd.C_drew (Kd.F_now (Kd.F_below HF2.out HB7.out))) HZ7.out (by have := HSh.out; have := HHl.out; omega) 31
                  subst hv9
                  have hob : ∀ k, (Value.slice Ah hs.length ch).ownBlock = some k → c ≤ k := Kd.R_base HH7.out
                  have hr9 := hr7.drew.grown hg9 (fun e => by have h5 := hob _ e.symm; have := HMc.out; have h5 : c ≤ w4.heap.size := h5; omega)
                  have g3 := hr9.cells.2.2.2
                  have f3 := hr9.frozen 3
                  have HFIN := Lib.hid (acts_app (W := W) HP7.out HR7.out HT7.out HF7.out HB7.out (⟨hg9.os, hg9.tape, hg9.output, hg9.size, hg9.block⟩ : w7.grownBy w9 _) hob hR9 HaC.out HMc.out HTM.out (by have := HX4.out; omega) (Nat.le_refl _) HaM.out (by have := HS5.out; omega) HZ7.out)
                  clear v0 v1 v2 hp7 hg7 hr7 hR9 hg9 hr9 hob d1 hz7
                  go_wp2_with (fail)
                  go_region_law (first | (refine step_append_run rfl (.tmp 95) (.tmp 97) 31 rfl _ _ rfl rfl _ _ happ ?_))
                  all_goals
                    go_wp2_with (fail)
                    go_meet
                    have hF := HFIN.out
                    simp only [List.length_append] at hF
                    obtain ⟨f1, f2, f4, f5, f6, f7, f8⟩ := hF
                    refine ⟨s.hear (Pc.of l fin) y.f2, hs ++ y.f2, A9, c9, Nat.le_trans HSd.out (due_mono (by show (s.heard : Int) ≤ ((s.heard + y.f2.length : Nat) : Int); omega) _ _ _), by have := HSh.out; show s.heard + y.f2.length ≤ (x + 1) * 1000; omega, by rw [List.length_append, ← HHl.out]; rfl, beg_hear (c := Pc.of l fin) HHl.out HRt.out, ?_⟩
                    simp only [List.length_append]
                    exact ⟨f1, f2, f4, f5, f6, f7, f8⟩
                · have k2b : (y.f0 == 2) = false := beq_eq_false_iff_ne.mpr k2
                  by_cases k3 : y.f0 = 3
                  · have k3b : (y.f0 == 3) = true := beq_iff_eq.mpr k3
                    clear k0 k1 k2 k3
                    go_wp2_with (fail)
                    have m3 := HRv.out.cells.2.2.2
                    have d3 : V.drew.cell? ⟨w4.heap.size, 3, none⟩ = some (.slice Ah hs.length ch) := m3
                    have hnl : (nxt (way 1 l) hs.length y.f1).length ≤ 1000 := by unfold nxt; rw [List.length_take]; omega
                    have HNL := Lib.hid hnl
                    have HFd := Lib.hid (Kd.F_below HFv.out (below_drew (Below.refl _ _)))
                    clear v0 v1 v2 hnl
                    go_region_held3 (fun w' => w'.cell? ⟨w4.heap.size, 3, none⟩ = some (.slice Ah hs.length ch) ∧ w'.cell? ⟨wr.heap.size, 1, none⟩ = some (.int .i64 y.f1))
                      (first | exact ⟨d3, d1⟩ | go_keep)
                      (first
                        | (go_at_call 19; refine (next_c (way 1 l) hs.length y.f1 HL.out.2 (by have := HSh.out; have := HHl.out; omega) Ai ci _ _ HFd.out hci).mono ?_; rintro e w8 ⟨An, cn, rfl, hcn, hFn, hw8⟩; subst hw8; have HFn := Lib.hid hFn; clear hFn hcn))
                    clear d3 d1 m3
                    go_wp2_with (fail)
                    generalize hb : nxt (way 1 l) hs.length y.f1 = bs at HNL HFn ⊢
                    have C4 := peer_Hear HPd.out HL.out.2 (show s.heard ≤ 4294967296 by have := HSh.out; omega) An cn bs (Kd.F_now HFn.out) (by have := HNL.out; omega)
                    refine C4.mono ?_
                    clear C4 hb
                    rintro e w7 ⟨⟨v, rfl⟩, hp7, hg7'⟩
                    have hg7 : V.grownBy w7 (some a.B) := ⟨hg7'.os, hg7'.tape, hg7'.output, hg7'.size, hg7'.block⟩
                    have HB7 := Lib.hid (HBv.out.grown hg7 HBv.out.size (fun k hk => by injection hk with hk; have := HaT.out; omega))
                    have HP7 := Lib.hid hp7
                    have hr7 := HRv.out.grown hg7 (fun e => by injection e with e; have := HaM.out; have e : w4.heap.size = a.B := e; omega)
                    have HR7 := Lib.hid hr7
                    have HH7 := Lib.hid (Kd.R_mono (ok' := fun _ => True) (Kd.R_grown (Kd.R_bound HHv.out) hg7 (fun k hk e => by injection e with e; have h5 : c ≤ k := hk.2.1; have := HaC.out; omega)) (fun _ _ => trivial))
                    have HT7 := Lib.hid (HTv.out.grown hg7 (fun e => by injection e with e; have := HaT.out; omega))
                    have HF7 := Lib.hid (Kd.F_grown HFv.out hg7 (fun k hk e => by injection e with e; have := HaM.out; have := HS5.out; omega))
                    have hFn7 := Kd.F_grown HFn.out hg7' (fun k hk e => by injection e with e; have := HaM.out; have := HS5.out; omega)
                    have HZ7 := Lib.hid (show c ≤ w7.heap.size by have := hg7.size; have := HCw.out; have := HVw.out; omega)
                    have m3 := hr7.cells.2.2.2
                    obtain ⟨v9, w9, happ, hR9, hg9, A9, c9, hv9⟩ := append_c (W := w7) (c := cn) HH7.out (Kd.F_now hFn7) HZ7.out (by have := HSh.out; have := HHl.out; have := HNL.out; omega) 31
                    subst hv9
                    have hob : ∀ k, (Value.slice Ah hs.length ch).ownBlock = some k → c ≤ k := Kd.R_base HH7.out
                    have hr9 := hr7.grown hg9 (fun e => by have h5 := hob _ e.symm; have := HMc.out; have h5 : c ≤ w4.heap.size := h5; omega)
                    have g3 := hr9.cells.2.2.2
                    have f3 := hr9.frozen 3
                    have HFIN := Lib.hid (acts_app (W := W) HP7.out HR7.out HT7.out HF7.out HB7.out hg9 hob hR9 HaC.out HMc.out HTM.out (by have := HX4.out; omega) (Nat.le_refl _) HaM.out (by have := HS5.out; omega) HZ7.out)
                    clear hp7 hg7 hg7' hr7 hR9 hg9 hr9 hob hFn7
                    go_wp2_with (at_builtin; refine list_append_run rfl (.tmp 119) (.tmp 120) 31 rfl _ _ rfl rfl _ _ happ ?_)
                    go_meet
                    have hF := HFIN.out
                    simp only [List.length_append] at hF
                    obtain ⟨f1, f2, f4, f5, f6, f7, f8⟩ := hF
                    refine ⟨s.hear (Pc.of l fin) bs, hs ++ bs, A9, c9, Nat.le_trans HSd.out (due_mono (by show (s.heard : Int) ≤ ((s.heard + bs.length : Nat) : Int); omega) _ _ _), by have := HSh.out; have := HNL.out; show s.heard + bs.length ≤ (x + 1) * 1000; omega, by rw [List.length_append, ← HHl.out]; rfl, beg_hear (c := Pc.of l fin) HHl.out HRt.out, ?_⟩
                    simp only [List.length_append]
                    exact ⟨f1, f2, f4, f5, f6, f7, f8⟩
                  · have k3b : (y.f0 == 3) = false := beq_eq_false_iff_ne.mpr k3
                    clear k0 k1 k2 k3
                    go_wp2_with (fail)
                    go_meet
                    exact ⟨s, hs, Ah, ch, HSd.out, by have := HSh.out; omega, HHl.out, HRt.out, HPv.out, HRv.out, HHv.out, HTv.out, HFv.out, HBv.out, Nat.le_trans HCw.out HVw.out⟩
          case rest =>
            clear v0 v1 v2 HPv HRv HHv HTv HFv HBv HCv HSd HSh HHl HRt HD HD2 HD3 HPK HCl HVw HPd HBd HaE HME d1
            obtain ⟨⟨q, hq, rr⟩, hs', Ah', ch', hsd, hsh, hhl, hrt, hp, hr, hh, ht, hf, hb, hcw⟩ := hcut
            replace hhl : hq = hs'.length := hhl
            replace hrt : rr = isBeg (way 1 l) hs' := hrt
            subst hhl
            subst hrt
            replace hsd : q ≤ due ((hs'.length : Nat) : Int) 0 0 (mrg l) := hsd
            replace hsh : hs'.length ≤ (x + 1) * 1000 := hsh
            replace hr : RfAt wc ⟨w4.heap.size, A, cl⟩ l fin q (.slice Ah' hs'.length ch') := hr
            obtain ⟨D, hD⟩ : ∃ D, D = due ((hs'.length : Nat) : Int) 0 0 (mrg l) := ⟨_, rfl⟩
            have hqD : q ≤ D := by omega
            have hDm : D ≤ 1048576 := by have := HL.out.1; have := due_out ((hs'.length : Nat) : Int) l; omega
            have HC15 := Lib.hid (show ∀ V, PeAt V (fun k => w2.heap.size ≤ k ∧ k < w3.heap.size ∧ k ≠ a.B) a (Pc.of l fin) ⟨q, hs'.length, isBeg (way 1 l) hs'⟩ → Calls Try.prog 15 #[.pointer (some ⟨a.B, 0, none⟩)] V (fun e W' => e = .returned (.int .i64 ((D - q : Nat) : Int)) ∧ Below V.heap.size V W') from fun V h => by have := peer_Due h (small_mrg hl) hsd (due_mrg_le _ hl); rw [hD]; exact this)
            have HC25 := Lib.hid (show ∀ V, RfAt V ⟨w4.heap.size, A, cl⟩ l fin q (.slice Ah' hs'.length ch') → Kd.C k40 V A l.length l → Calls Try.prog 25 #[.pointer (some ⟨w4.heap.size, 0, none⟩)] V (fun e W' => e = .returned (.int .i64 ((D - q : Nat) : Int)) ∧ Below V.heap.size V W') from fun V h hC => ref_Due h hC hc hl (by rw [← due_mrg, ← hD]) hDm hqD)
            obtain ⟨ov, hov⟩ : ∃ ov, ov = (fin && (decide (q = (way 0 l).length) && decide ((way 1 l).length ≤ hs'.length))) := ⟨_, rfl⟩
            obtain ⟨rg, hrg⟩ : ∃ rg, rg = isBeg (way 1 l) hs' := ⟨_, rfl⟩
            have h17 : Pz.over ⟨q, hs'.length, isBeg (way 1 l) hs'⟩ (Pc.of l fin) = ov := by rw [hov]; rfl
            have HC17 := Lib.hid (show ∀ V, PeAt V (fun k => w2.heap.size ≤ k ∧ k < w3.heap.size ∧ k ≠ a.B) a (Pc.of l fin) ⟨q, hs'.length, isBeg (way 1 l) hs'⟩ → Calls Try.prog 17 #[.pointer (some ⟨a.B, 0, none⟩)] V (fun e W' => e = .returned (.bool ov) ∧ Below V.heap.size V W') from fun V h => (peer_Over h).mono (by rintro e W' ⟨he, hb⟩; exact ⟨by rw [he, h17], hb⟩))
            have HC26 := Lib.hid (show ∀ V, RfAt V ⟨w4.heap.size, A, cl⟩ l fin q (.slice Ah' hs'.length ch') → Kd.C k40 V A l.length l → Calls Try.prog 26 #[.pointer (some ⟨w4.heap.size, 0, none⟩)] V (fun e W' => e = .returned (.bool ov) ∧ Below V.heap.size V W') from fun V h hC => (ref_Over h hC hc hl).mono (by rintro e W' ⟨he, hb⟩; exact ⟨by rw [he, hov], hb⟩))
            have HC16 := Lib.hid (show ∀ V, PeAt V (fun k => w2.heap.size ≤ k ∧ k < w3.heap.size ∧ k ≠ a.B) a (Pc.of l fin) ⟨q, hs'.length, isBeg (way 1 l) hs'⟩ → Calls Try.prog 16 #[.pointer (some ⟨a.B, 0, none⟩)] V (fun e W' => e = .returned (.bool rg) ∧ Below V.heap.size V W') from fun V h => (peer_Right h).mono (by rintro e W' ⟨he, hb⟩; exact ⟨by rw [he, hrg], hb⟩))
            have HC27 := Lib.hid (show ∀ V, RfAt V ⟨w4.heap.size, A, cl⟩ l fin q (.slice Ah' hs'.length ch') → Kd.C k40 V A l.length l → Kd.C (Kd.int .u8) V Ah' hs'.length hs' → Calls Try.prog 27 #[.pointer (some ⟨w4.heap.size, 0, none⟩)] V (fun e W' => e = .returned (.bool rg) ∧ Below V.heap.size V W') from fun V h hC hH => (ref_Right h hC hc hl hH).mono (by rintro e W' ⟨he, hb⟩; exact ⟨by rw [he, hrg], hb⟩))
            have HC28 := Lib.hid (show ∀ V, PeAt V (fun k => w2.heap.size ≤ k ∧ k < w3.heap.size ∧ k ≠ a.B) a (Pc.of l fin) ⟨q, hs'.length, isBeg (way 1 l) hs'⟩ → Calls Try.prog 28 #[.pointer (some ⟨a.B, 0, none⟩)] V (fun e W' => e = .returned (.int .i64 (q : Int)) ∧ Below V.heap.size V W') from fun V h => peer_Said h)
            have HC20 := Lib.hid (show ∀ V, PeAt V (fun k => w2.heap.size ≤ k ∧ k < w3.heap.size ∧ k ≠ a.B) a (Pc.of l fin) ⟨q, hs'.length, isBeg (way 1 l) hs'⟩ → Calls Try.prog 20 #[.pointer (some ⟨a.B, 0, none⟩)] V (fun e W' => e = .returned (.int .i64 (hs'.length : Int)) ∧ Below V.heap.size V W') from fun V h => peer_Heard h)
            have HSd := Lib.hid hsd
            have HSh := Lib.hid hsh
            have HPr := Lib.hid hp
            have HRr := Lib.hid hr
            have HHr := Lib.hid hh
            have HTr := Lib.hid ht
            have HFr := Lib.hid hf
            have HBr := Lib.hid hb
            have HCw' := Lib.hid hcw
            have HP0 := Lib.hid hp.drew
            have HR0 := Lib.hid hr.drew
            have HC0' := Lib.hid (Kd.C_drew (Kd.C_below HC0.out hb))
            have HH0 := Lib.hid (Kd.C_drew (Kd.R_reads' hh).2.2)
            have d0 : wc.drew.cell? ⟨w4.heap.size, 2, none⟩ = some (.int .i64 (q : Int)) ∧ wc.drew.cell? ⟨w4.heap.size, 3, none⟩ = some (.slice Ah' hs'.length ch') := ⟨hr.cells.2.2.1, hr.cells.2.2.2⟩
            clear hsd hsh hp hr hh ht hf hb hcw hD hDm hqD hov hrg h17
            go_upto_region 28 with (fail)
            go_region_held3 (fun w' => w'.cell? ⟨w4.heap.size, 2, none⟩ = some (.int .i64 (q : Int)) ∧ w'.cell? ⟨w4.heap.size, 3, none⟩ = some (.slice Ah' hs'.length ch'))
              (first | exact d0 | exact d1 | exact d2 | exact d3 | exact d4 | exact d5 | exact d6 | exact d7 | exact d8 | go_keep)
              (first
                | (go_at_call 15; ((with_reducible refine (HC15.out _ HP0.out).mono ?_); rintro e v1 ⟨rfl, hb1⟩; have HP1 := Lib.hid (HP0.out.below hb1); have HR1 := Lib.hid (HR0.out.below hb1); have HC1' := Lib.hid (Kd.C_below HC0'.out hb1); have HH1 := Lib.hid (Kd.C_below HH0.out hb1); have d1 := And.intro (pw_cell_below hb1 d0.1) (pw_cell_below hb1 d0.2); have HB1 := Lib.hid hb1; clear hb1))
                | (go_at_call 25; ((with_reducible refine (HC25.out _ HR1.out HC1'.out).mono ?_); rintro e v2 ⟨rfl, hb2⟩; have HP2 := Lib.hid (HP1.out.below hb2); have HR2 := Lib.hid (HR1.out.below hb2); have HC2' := Lib.hid (Kd.C_below HC1'.out hb2); have HH2 := Lib.hid (Kd.C_below HH1.out hb2); have d2 := And.intro (pw_cell_below hb2 d1.1) (pw_cell_below hb2 d1.2); have HB2 := Lib.hid hb2; clear hb2))
                | (go_at_call 17; ((with_reducible refine (HC17.out _ HP2.out).mono ?_); rintro e v3 ⟨rfl, hb3⟩; have HP3' := Lib.hid (HP2.out.below hb3); have HR3 := Lib.hid (HR2.out.below hb3); have HC3' := Lib.hid (Kd.C_below HC2'.out hb3); have HH3 := Lib.hid (Kd.C_below HH2.out hb3); have d3 := And.intro (pw_cell_below hb3 d2.1) (pw_cell_below hb3 d2.2); have HB3 := Lib.hid hb3; clear hb3))
                | (go_at_call 26; ((with_reducible refine (HC26.out _ HR3.out HC3'.out).mono ?_); rintro e v4 ⟨rfl, hb4⟩; have HP4' := Lib.hid (HP3'.out.below hb4); have HR4 := Lib.hid (HR3.out.below hb4); have HC4' := Lib.hid (Kd.C_below HC3'.out hb4); have HH4 := Lib.hid (Kd.C_below HH3.out hb4); have d4 := And.intro (pw_cell_below hb4 d3.1) (pw_cell_below hb4 d3.2); have HB4 := Lib.hid hb4; clear hb4))
                | (go_at_call 16; ((with_reducible refine (HC16.out _ HP4'.out).mono ?_); rintro e v5 ⟨rfl, hb5⟩; have HP5' := Lib.hid (HP4'.out.below hb5); have HR5 := Lib.hid (HR4.out.below hb5); have HC5' := Lib.hid (Kd.C_below HC4'.out hb5); have HH5 := Lib.hid (Kd.C_below HH4.out hb5); have d5 := And.intro (pw_cell_below hb5 d4.1) (pw_cell_below hb5 d4.2); have HB5 := Lib.hid hb5; clear hb5))
                | (go_at_call 27; ((with_reducible refine (HC27.out _ HR5.out HC5'.out HH5.out).mono ?_); rintro e v6 ⟨rfl, hb6⟩; have HP6' := Lib.hid (HP5'.out.below hb6); have d6 := And.intro (pw_cell_below hb6 d5.1) (pw_cell_below hb6 d5.2); have HB6 := Lib.hid hb6; clear hb6))
                | (go_at_call 28; ((with_reducible refine (HC28.out _ HP6'.out).mono ?_); rintro e v7 ⟨rfl, hb7⟩; have HP7' := Lib.hid (HP6'.out.below hb7); have d7 := And.intro (pw_cell_below hb7 d6.1) (pw_cell_below hb7 d6.2); have HB7 := Lib.hid hb7; clear hb7))
                | (go_at_call 20; ((with_reducible refine (HC20.out _ HP7'.out).mono ?_); rintro e v8 ⟨rfl, hb8⟩; have HP8' := Lib.hid (HP7'.out.below hb8); have d8 := And.intro (pw_cell_below hb8 d7.1) (pw_cell_below hb8 d7.2); have HB8 := Lib.hid hb8; clear hb8)))
            have hB1 : Below wc.heap.size wc v1 := ⟨HB1.out.os, HB1.out.tape, HB1.out.output, HB1.out.size, HB1.out.block⟩
            have hB8 := below_step (below_step (below_step (below_step (below_step (below_step (below_step hB1 HB2.out) HB3.out) HB4.out) HB5.out) HB6.out) HB7.out) HB8.out
            have HR8 := Lib.hid (HRr.out.below hB8)
            have HH8 := Lib.hid (Kd.R_below HHr.out hB8)
            have HT8 := Lib.hid (HTr.out.below hB8)
            have HF8 := Lib.hid (Kd.F_below HFr.out hB8)
            have HBW8 := Lib.hid (below_step HBr.out hB8)
            have HC8 := Lib.hid (Nat.le_trans HCw'.out hB8.size)
            clear hB1 hB8 d0 d1 d2 d3 d4 d5 d6 d7 d8 HPr HRr HHr HTr HFr HBr HCw' HP0 HR0 HC0' HH0 HP1 HR1 HC1' HH1 HP2 HR2 HC2' HH2 HP3' HR3 HC3' HH3 HP4' HR4 HC4' HH4 HP5' HR5 HC5' HH5 HP6' HP7' HB1 HB2 HB3 HB4 HB5 HB6 HB7 HB8 HC15 HC25 HC17 HC26 HC16 HC27 HC28 HC20 hlt'
            go_wp2
            go_roundw
            case rel => exact ⟨x + 1, ⟨q, hs'.length, isBeg (way 1 l) hs'⟩, hs', Ah', ch', by omega, by go_num, HSd.out, HSh.out, rfl, rfl, HP8'.out, HR8.out, HH8.out, HT8.out, HF8.out, HBW8.out, HC8.out⟩
            case measure => simp [intOf]; omega
        · obtain rfl : x = acts.length := by omega
          clear hcdef
          go_wp2
          go_ret
          exact ⟨rfl, HBr.out⟩
    · have hzb : (chkN l != 0) = true := bne_iff_ne.mpr hz
      have hzc : (chkN l == 0) = false := beq_eq_false_iff_ne.mpr hz
      go_enter Try.func7, Try.ntmps7
      go_wp2_with (fail)
      rw [HW0.out]
      refine (cuecardlaw20_aliveT W0).mono ?_
      rintro e w1 ⟨rfl, hB1⟩
      have c0 := (HT.out.below hB1).c0
      go_wp2_with (fail)
      refine (cuecardlaw20_great.calls _ A cl l Aa ca acts false _ (Kd.C_below HC.out hB1) hc (Kd.C_below HAW.out hB1) hca HG.out).mono ?_
      rintro e wg ⟨rfl, hBg⟩
      have hB1g := below_step hB1 hBg
      clear c0
      have c0 := (HT.out.below hB1g).c0
      have c1 := (HT.out.below hB1g).c1
      go_wp2_with (fail)
      refine (HN.out wg (Kd.C_below HC.out hB1g) hc).mono ?_
      rintro e w2 ⟨h, _⟩
      obtain ⟨rfl, hB2⟩ := h hz
      clear c0 c1
      have hB2g := below_step hB1g hB2
      have c0 := (HT.out.below hB2g).c0
      go_wp2_with (fail)
      refine (cuecardref04_Check.calls _ A cl l (chkN l) _ (Kd.C_below HC.out hB2g) hc HK.out).mono ?_
      rintro e w3 ⟨rfl, hB3⟩
      go_wp2
      go_ret
      exact ⟨by simp, below_step (below_step HB.out hB2g) hB3⟩
end Go.Proofs.Ytpcednpkkimehaa.QA
