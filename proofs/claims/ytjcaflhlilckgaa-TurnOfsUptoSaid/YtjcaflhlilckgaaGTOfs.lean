import Derived.RangeFuncNested
import Derived.RangeFuncBound
import Derived.RangeFuncCalls
import Derived.RangeFuncLeaves
import Derived.Shelf.Abstract
import Derived.Shelf.RegionOpen
import Derived.WalkKit
import Derived.OwnWalkIn
import Derived.TacticsInMore
import Derived.LoopNIn
import Derived.LoopIn
import Derived.Maps.AppendAt
import Derived.StillTailTactics
import Derived.Lib.Hide
import Derived.Lib.LazyBuf
import Derived.Outline
import Derived.Deep.RegionWith
import Derived.Deep.RegionLaw
import Derived.Deep.AppendLies
import Derived.CallsIn

import Derived.Lib.Bytes
import Derived.Deep.DeepCutAuto
import Derived.Lib.SmallJoins
import Derived.Laws.EntriesVeiled
import Derived.Deep.RegionHeld3
import Derived.BigRegion
import Derived.BigQuiet
import Derived.Test.YtjcaflhlilckgaaPBackT
import Derived.Test.YtjcaflhlilckgaaGOf
import Derived.Test.YtjcaflhlilckgaaQAx1
import Derived.Test.YtjcaflhlilckgaaGAlive
import Derived.Test.YtjcaflhlilckgaaGRo1
namespace Go.Proofs.Ytjcaflhlilckgaa.QA
open Go.RowKit Go.Shelf Go.Proofs.YtjcaflhlilckgaaW.PrintWords Go.Proofs.YtjcaflhlilckgaaW.PrintLast Go.Proofs.YtjcaflhlilckgaaW.PrintMore
attribute [local go_sem] Oper.semAt_some
attribute [local go_sem] max2_int min2_int max_two min_two max_three min_three max_four min_four   -- for this text's walks alone
set_option linter.unusedVariables false
set_option linter.unusedSimpArgs false
/-! ### a region that draws its order, in a round of a range over a function, at the wide fence -/
theorem wpOps_inRound {l n : Nat} {P : Program} {ops : Array Oper} {Q : Exit → Act → World → Prop} (hQ : ∀ a w, ¬ Q .outgrown a w) (hd : ∀ (i : Nat) (o : Oper), ops[i]? = some o → ∀ c, o.op ≠ .defer c) :
    ∀ (ls : List Nat) (a : Act) (w : World), wpOps P ops Q ls a w → wpOpsIn (Fence.wide.inRound l) n P ops Q ls a w
  | [], a, w, h => h
  | i :: rest, a, w, h => by
    unfold wpOps at h
    unfold wpOpsIn
    cases ho : ops[i]? with
    | none =>
      simp only [ho] at h ⊢
      exact wpOps_inRound hQ hd rest a w h
    | some o =>
      simp only [ho] at h ⊢
      by_cases hw : Region.wanted o (yielded ops a.tmps) = true
      · rw [if_pos hw] at h ⊢
        rcases h with h | ⟨_, a', w', h⟩
        · refine ⟨fun f _ => trivial, ?_⟩
          rw [Oper.semAt_plain _ _ _ (hd i o ho)]
          unfold Oper.wp at h
          generalize (execOp a.eval o).run P w = r at h ⊢
          cases r with
          | ok x w' =>
            revert h
            cases x
            case value v => exact fun h => wpOps_inRound hQ hd rest _ _ h
            case skip => exact fun h => wpOps_inRound hQ hd rest _ _ h
            case defer d => exact fun h => wpOps_inRound hQ hd rest _ _ h
            case enter f args =>
              intro h
              refine ⟨fun h => (by cases h), CallsIn.inRound l (callsIn_wide.2 (Calls.mono h ?_))⟩
              intro e w'' he
              cases e with
              | returned v => exact wpOps_inRound hQ hd rest _ _ he
              | panicked ch => exact he
              | outgrown => exact he
            case row r args =>
              intro h
              refine ⟨fun h => (by cases h), fun c cs _ => ?_⟩
              obtain ⟨v, w'', hr, hs⟩ := h c cs
              exact ⟨v, w'', wpOps_inRound hQ hd rest _ _ hr, stepsIn_wide.2 hs⟩
            all_goals exact fun h => False.elim h
          | halt x w' =>
            revert h
            cases x
            case panic v => exact fun h => h
            all_goals exact fun h => False.elim h
        · exact absurd h (hQ _ _)
      · rw [if_neg hw] at h ⊢
        exact ⟨fun _ _ => trivial, wpOps_inRound hQ hd rest _ _ h⟩
def noDefer (ops : Array Oper) : Bool := ops.toList.all fun o => match o.op with | .defer _ => false | _ => true
theorem noDefer_spec {ops : Array Oper} (h : noDefer ops = true) : ∀ (i : Nat) (o : Oper), ops[i]? = some o → ∀ c, o.op ≠ .defer c := fun i o ho c hc => by
  have hm : o ∈ ops.toList := by
    rw [← Array.getElem?_toList] at ho
    exact List.mem_of_getElem? ho
  have h2 := List.all_eq_true.1 h o hm
  simp only [hc] at h2
  cases h2
theorem region_held_inRound {l n : Nat} {P : Program} {ops : Array Oper} {Q : Exit → Act → World → Prop} {S : World → Prop} {id : Nat} {a : Act} {w : World} (hQ : ∀ a w, ¬ Q .outgrown a w) (hd : noDefer ops = true)
    (hm : P.follows .mixedOrders = true) (hS : S w.drew) (h : S w.drew → wpAnyH P .any ops Q S ops.size (Array.replicate ops.size false) a w.drew) : (Code.region id ops true).wpIn (Fence.wide.inRound l) n P Q a w :=
  wpIn_region_draw fun t => by
    simp only [Region.schedule, hm, Bool.true_or, if_true]
    exact wpOps_inRound hQ (noDefer_spec hd) _ _ _ (wpAny_sound ops.size t _ a _ (wpAny_of_held _ _ _ _ (h hS)))
theorem grow_far {w X Y : World} {b : Nat} {row : Option Nat} (h : w.grownBy X (some b)) (g : X.grownBy Y row) (hr : ∀ k, row = some k → w.heap.size ≤ k) : w.grownBy Y (some b) :=
  ⟨g.os.trans h.os, g.tape.trans h.tape, g.output.trans h.output, Nat.le_trans h.size g.size, fun k hk hne => (g.block k (Nat.lt_of_lt_of_le hk h.size) (fun e => by have := hr k e.symm; omega)).trans (h.block k hk hne)⟩
theorem box_other {w X : World} {b k : Nat} {t : TypeId} {v : Value} (h : w.grownBy X (some b)) (hb : Boxed w k t v) (hne : k ≠ b) : Boxed X k t v := hb.kept h (fun e => hne (by injection e))
/-- what the loop of TurnOfs keeps: of what was there ahead of it the count alone is written -/
def ITo (w : World) (b : Nat) (pre : List TIt) (W : World) : Prop := w.grownBy W (some b) ∧ Boxed W b 3 (.int .i64 (pre.length : Int))
theorem iTo_own {w : World} {b : Nat} (hb : b < w.heap.size) : OwnFrom w.heap.size (ITo w b) := by
  rintro s X Y row ⟨h, hv⟩ hg hrow
  exact ⟨grow_far h hg (fun k e => (hrow k e).1), hv.kept hg (fun e => by have := (hrow b e.symm).1; omega)⟩
theorem iTo_c {w : World} {b : Nat} (hb : b < w.heap.size) : AbC (CT w.heap.size b) (ITo w b) := by
  rintro s X Y row ⟨h, hv⟩ hg hrow
  exact ⟨grow_far h hg (fun k e => (hrow k e).1.1), hv.kept hg (fun e => by have := (hrow b e.symm).1.1; omega)⟩
theorem keep_int {b : Nat} {W W1 : World} {x y : Int} (hb : Boxed W b 3 (.int .i64 x)) (hb1 : Boxed W1 b 3 (.int .i64 y)) (hg : W.grownBy W1 (some b)) : Keep b W W1 := by
  have hF : ∀ k, Free b W k ↔ k = b := fun k => by
    unfold Free
    rw [hb.cell]
    simp [Value.ownBlock]
  have hF2 : ∀ k, Free b W1 k ↔ k = b := fun k => by
    unfold Free
    rw [hb1.cell]
    simp [Value.ownBlock]
  refine ⟨hg.size, fun k o hk _ hf => ?_, fun k hk hf => ?_, fun hn k hk => ?_⟩
  · rw [hF] at hf
    exact (hg.block k (Array.getElem?_eq_some_iff.1 hk).1 (fun e => hf (by injection e))).trans hk
  · rw [hF] at hf
    rwa [hF2]
  · rw [hF2]
    rintro rfl
    have := hb1.lt
    omega
theorem results_cell1 {fn : Func} {p : Tmp} {ty : TypeId} (h : fn.results = #[.cell p ty]) (tmps : Array Value) (P : Program) (w : World) (a : Addr) (v : Value) (ha : tmps.getD p undef = .pointer (some a)) (hl : (loadVar ty a).run P w = .ok v w) :
    (results fn tmps).run P w = .ok v w := by
  have hp' : tmps[p]?.getD undef = .pointer (some a) := by simpa using ha
  simp [results, h, hp', asAddr, hl]
/-! ### TurnOfs -/
set_option maxRecDepth 100000 in
set_option maxHeartbeats 8000000 in
theorem turnOfs_walk (l : List S37) (hs : small l) (A : Option Addr) (cl : Nat) (W : World) (hC : Kd.C k37 W A l.length l) (hc : l.length ≤ cl) :
    Calls Try.prog 3 #[.slice A l.length cl] W fun e W' => e = .returned (.bool true) ∧ Below W.heap.size W W' := by
  have hf := few_of hs
  have hsz := trn_size l
  have hl1 := hf.1
  have hl2 := hf.2
  have hTl := trn_len l
  have hof := of_f l hf (k := 2 * l.length + 2) (Nat.le_refl _)
  have hsame := same_f (trn l) (by omega) (k := (trn l).length + 1) (Nat.le_refl _)
  have hri := right_f l hf (k := 2 * l.length + 2) (Nat.le_refl _)
  have hrt : turns (mrg (dirs l)) = trn l := by rw [turns_mrg]; rfl
  have hfm := few_mrg (few_dirs hf)
  have hOf := Lib.hid (fun W (hC : Kd.C k37 W A l.length l) => refOf_c l hs A cl W hC hc)
  generalize hT : trn l = T at hsz hTl hof hsame hrt hOf
  have hT1 : T.length ≤ 1048576 := by omega
  have HOF := Lib.hid hof
  have HSAME := Lib.hid hsame
  have HRI := Lib.hid hri
  have HRT := Lib.hid hrt
  have HFM := Lib.hid hfm
  have HC := Lib.hid hC
  have hll : l.length ≤ 1048576 := by omega
  clear hof hsame hri hrt hfm hC hf hsz hl1 hl2 hTl hT hs
  refine (callsIn_wide (n := 3)).1 ?_
  refine callsIn_of_wp_marks Try.func3 rfl trivial ?_ rfl
  simp only [Try.ntmps3, List.size_toArray, List.length_cons, List.length_nil, Nat.reduceAdd, Nat.reduceSub, Array.replicate_succ, Array.replicate_zero, List.push_toArray, List.append_toArray, List.nil_append, List.cons_append]
  refine wpIn_wide.2 ?_
  have bR := Boxed.new W 4 (.bool false)
  have hB0 : Below W.heap.size W (W.alloc (.cells #[.bool false] 4)) := (Below.refl _ W).alloc (Nat.le_refl _) _
  have hs0 : (W.alloc (.cells #[.bool false] 4)).heap.size = W.heap.size + 1 := by simp
  go_wp2_with (fail)
  generalize W.alloc (.cells #[.bool false] 4) = W0 at *
  refine (cuecardlaw10_aliveT _).mono ?_
  rintro e w1 ⟨rfl, hB⟩
  have bR1 : Boxed w1 W.heap.size 4 (.bool false) := (hB.block _ bR.lt).trans bR
  have hB1 := below_step hB0 hB
  have hs1 := hB.size
  clear bR hB0 hB
  go_wp2_with (fail)
  refine (hOf.out w1 (Kd.C_below HC.out hB1)).mono ?_
  rintro e w2 ⟨v, rfl, hR, hB⟩
  obtain ⟨Aw, cw, rfl⟩ := Kd.R_slice hR
  have hcw := (Kd.R_reads' hR).2.1
  have HCW := Lib.hid (Kd.R_reads' hR).2.2
  have HFW := Lib.hid (show Kd.F k33 w2 (fun k => k < w2.heap.size) Aw T.length T from Kd.F_mono (Kd.R_F (Kd.R_bound hR)) (fun k hk => hk.2.2.1))
  have bR2 : Boxed w2 W.heap.size 4 (.bool false) := (hB.block _ bR1.lt).trans bR1
  have hB2 := below_step hB1 hB
  have hs2 := hB.size
  clear bR1 hB1 hB hR hOf
  have bW := Boxed.new w2 24 (.slice Aw T.length cw)
  have hB : Below w2.heap.size w2 (w2.alloc (.cells #[.slice Aw T.length cw] 24)) := (Below.refl _ w2).alloc (Nat.le_refl _) _
  have hs3 : (w2.alloc (.cells #[.slice Aw T.length cw] 24)).heap.size = w2.heap.size + 1 := by simp
  go_upto_region 4 with (fail)
  generalize w2.alloc (.cells #[.slice Aw T.length cw] 24) = w3 at *
  have bR3 : Boxed w3 W.heap.size 4 (.bool false) := (hB.block _ bR2.lt).trans bR2
  have hB3 := below_step hB2 hB
  have HCW3 := Lib.hid (Kd.C_below HCW.out hB)
  have HFW3 := Lib.hid (Kd.F_below HFW.out hB)
  clear bR2 hB2 hB HCW
  have d1 : w3.drew.cell? ⟨w2.heap.size, 0, none⟩ = some (.slice Aw T.length cw) := bW.cell
  have HCd := Lib.hid (Kd.C_below HC.out (show Below W.heap.size W w3.drew from below_drew1 hB3))
  have HCW4 := Lib.hid (Kd.C_drew HCW3.out)
  go_region_held3 (fun w' => w'.cell? ⟨w2.heap.size, 0, none⟩ = some (.slice Aw T.length cw))
    (first | exact d1 | exact d4 | exact d5 | go_keep)
    (first
      | (go_at_call 12; ((with_reducible refine (turn_Of.callsR (2 * l.length + 2) A cl l T _ HCd.out hc HOF.out).mono ?_); rintro e w4 ⟨v, rfl, hR, hB4⟩; obtain ⟨Az, cz, rfl⟩ := Kd.R_slice hR; have hcz := (Kd.R_reads' hR).2.1; have HCZ := Lib.hid (Kd.R_reads' hR).2.2; have HCW5 := Lib.hid (Kd.C_below HCW4.out hB4); have d4 := pw_cell_below hB4 d1; have HB4 := Lib.hid hB4; clear hR hB4))
      | (go_at_call 11; ((with_reducible refine (cuecardref10_Same.calls (T.length + 1) Az cz T Aw cw T true _ HCZ.out hcz HCW5.out hcw HSAME.out).mono ?_); rintro e w5 ⟨rfl, hB5⟩; have d5 := pw_cell_below hB5 d4; have HB5 := Lib.hid hB5; clear hB5)))
  have hB35 : Below w3.heap.size w3 w5 := by
    have h4 : Below w3.heap.size w3 w4 := ⟨HB4.out.os, HB4.out.tape, HB4.out.output, HB4.out.size, HB4.out.block⟩
    exact below_step h4 HB5.out
  have bR5 : Boxed w5 W.heap.size 4 (.bool false) := (hB35.block _ bR3.lt).trans bR3
  have bW5 : Boxed w5 w2.heap.size 24 (.slice Aw T.length cw) := (hB35.block _ bW.lt).trans bW
  have hB5 := below_step hB3 hB35
  have HCW5' := Lib.hid (Kd.C_below HCW3.out hB35)
  have HFW5 := Lib.hid (Kd.F_below HFW3.out hB35)
  have hs5 := hB35.size
  clear bR3 bW hB3 hB35 HCW3 HCd HCW4 d1 d4 d5 HCZ HCW5 HB4 HB5 hcz
  have bN := Boxed.new w5 3 (.int .i64 0)
  have hB : Below w5.heap.size w5 (w5.alloc (.cells #[.int .i64 0] 3)) := (Below.refl _ w5).alloc (Nat.le_refl _) _
  have hs6 : (w5.alloc (.cells #[.int .i64 0] 3)).heap.size = w5.heap.size + 1 := by simp
  go_wp2_with (fail)
  generalize w5.alloc (.cells #[.int .i64 0] 3) = w6 at *
  have bR6 : Boxed w6 W.heap.size 4 (.bool false) := (hB.block _ bR5.lt).trans bR5
  have bW6 : Boxed w6 w2.heap.size 24 (.slice Aw T.length cw) := (hB.block _ bW5.lt).trans bW5
  have hB6 := below_step hB5 hB
  have HFW6 := Lib.hid (Kd.F_below HFW5.out hB)
  clear bR5 bW5 hB5 hB HCW5'
  refine (callsIn_wide.1 (all_in Fence.wide 3 trivial rfl _ _ _ _)).mono ?_
  rintro e w7 ⟨rfl, hw7⟩
  go_wp2_with (fail)
  generalize hW7 : w6.alloc (.cells #[.slice A l.length cl] 22) = w8 at *
  have bL : Boxed w8 (w5.heap.size + 1) 22 (.slice A l.length cl) := by rw [← hW7, ← hs6]; exact Boxed.new w6 22 _
  have hB : Below w6.heap.size w6 w8 := by rw [← hW7]; exact (Below.refl _ w6).alloc (Nat.le_refl _) _
  have hs8 : w8.heap.size = w6.heap.size + 1 := by rw [← hW7]; simp
  have bN8 : Boxed w8 w5.heap.size 3 (.int .i64 0) := (hB.block _ bN.lt).trans bN
  have bR8 : Boxed w8 W.heap.size 4 (.bool false) := (hB.block _ bR6.lt).trans bR6
  have bW8 : Boxed w8 w2.heap.size 24 (.slice Aw T.length cw) := (hB.block _ bW6.lt).trans bW6
  have hB8 := below_step hB6 hB
  have HFW8 := Lib.hid (Kd.F_below HFW6.out hB)
  have hv1 : Kd.V k37 37 w8 w8.heap.size (fun _ => True) (.slice A l.length cl) l := Kd.V_mk hc (fun _ hW => heap37.C (fun k hlt => hW k trivial hlt) (Kd.C_below HC.out hB8))
  have hrt := HRT.out
  have hfm := HFM.out
  generalize mrg (dirs l) = evs at HRI hrt hfm
  have hn1 : W.heap.size < w5.heap.size := by have := bR6.lt; omega
  have hn2 : w2.heap.size < w5.heap.size := by omega
  clear bN bR6 bW6 hB6 hB HFW HFW3 HFW5 HFW6 hW7 hw7 HRT HFM
  refine wpIn_wide (n := 3) |>.1 ?_
  have hseq : SeqC Fence.wide (3 - 1) Try.prog 23 #[.pointer (some ⟨w5.heap.size + 1, 0, none⟩)] TIt.enc (CT w8.heap.size w5.heap.size) (Keep w5.heap.size) (NxT w8.heap.size (turns evs)) (fun xs => xs.map (fun i => i.2.2.2) = turns evs) (fun pre => pre.map (fun i => i.2.2.2) <+: turns evs) w8 := fun l' J Jx W' hW hJ hJx hY h0 =>
    all1_in _ w5.heap.size w8.heap.size (3 - 1) (by omega) l' (w5.heap.size + 1) A cl l evs hll (by have := hfm.2; omega) (fun e he => by have := tot_mem he; have := hfm.1; omega) HRI.out J Jx (by omega) W' hW.size hY hJ hJx ((hW.block _ bL.lt).trans bL) (Kd.V_below hv1 hW) ⟨3, _, (hW.block _ bN8.lt).trans bN8, fun k h => by cases h⟩ h0
  rw [hrt] at hseq
  refine range_c rfl (by omega) (gf := 23) (lb := #[.pointer (some ⟨w5.heap.size + 1, 0, none⟩)]) rfl trivial (enters_of Try.func23 (by kernel_rfl) rfl) hseq Keep.trans (fun W l o o' hl h h1 h2 => keep_putObj (n₀ := w8.heap.size) (by omega) W l o o' hl h h1 h2) (fun pre x W l o o' _ h h1 _ hx => nxT_putObj pre x W l o o' h h1 hx) (fun _ => rfl)
    (ITo w8 w5.heap.size) (fun _ _ => False) (iTo_own (by omega)) (fun _ _ _ _ h _ _ => h) (iTo_c (by omega)) (fun _ _ _ _ h _ _ => h) ⟨World.grownBy.refl w8 _, bN8⟩
    (fun x a' W' => ∃ Bx, BoxT W' Bx x ∧ w8.heap.size ≤ Bx ∧ a' = { tmps := #[.slice A l.length cl, undef, .pointer (some ⟨W.heap.size, 0, none⟩), .pointer (some ⟨w2.heap.size, 0, none⟩), .pointer (some ⟨w5.heap.size, 0, none⟩), .int .i64 x.1, .pointer (some ⟨Bx, 0, none⟩), .bool true, .bool false, .slice A l.length cl, .slice Aw T.length cw, .slice A l.length cl, .slice Az T.length cz, .slice Aw T.length cw, .bool true, .bool false, .slice A l.length cl, .func (.func 23) #[] #[.pointer (some ⟨w5.heap.size + 1, 0, none⟩)], .int .i64 x.1, .agg #[x.2.1, x.2.2.1], undef, undef, undef, undef, undef, undef, undef, undef, undef, undef, undef, undef, undef, undef, undef, undef, undef, undef, undef, undef, undef, undef, undef, undef, undef, undef], defers := [] })
    (fun x a' W l o o' _ h h1 _ => by
      rintro ⟨Bx, hb, hbx, e⟩
      refine ⟨Bx, (World.putObj_heap_other ?_).trans hb, hbx, e⟩
      rintro rfl
      rw [show W.heap[Bx]? = _ from hb] at h
      cases h
      cases h1) ?assign ?body ?done ?stop
  case assign =>
    rintro l' pre ⟨ix, vo, vi, s⟩ V K ⟨hg, hv⟩ ⟨hix, hpx, hRo, hRi⟩ hK
    obtain rfl : ix = pre.length := hix
    replace hRo : (Kd.int .u8).R 5 V w8.heap.size (fun _ => True) vo s.f0 := hRo
    replace hRi : (Kd.int .u8).R 5 V w8.heap.size (fun _ => True) vi s.f1 := hRi
    obtain ⟨Ao, co, rfl⟩ := Kd.R_slice hRo
    obtain ⟨Ai, ci, rfl⟩ := Kd.R_slice hRi
    unfold TIt.enc
    gi_wp2
    refine hK _ _ ((KeepsOthers.alloc _ _).from _) (keep_alloc hv.lt _) ⟨grow_far hg (World.grownBy_alloc V _ none) (fun k e => by cases e), hv.alloc _⟩ ⟨rfl, hpx, Kd.R_alloc hRo _, Kd.R_alloc hRi _⟩ ⟨V.heap.size, World.alloc_heap_new V _, hg.size, rfl⟩
  case body =>
    rintro l' pre ⟨ix, vo, vi, s⟩ a' V ⟨hg, hv⟩ ⟨hix, hpx, hRo, hRi⟩ ⟨Bx, bX, hBx, rfl⟩
    obtain rfl : ix = pre.length := hix
    replace hRo : (Kd.int .u8).R 5 V w8.heap.size (fun _ => True) vo s.f0 := hRo
    replace hRi : (Kd.int .u8).R 5 V w8.heap.size (fun _ => True) vi s.f1 := hRi
    obtain ⟨Ao, co, rfl⟩ := Kd.R_slice hRo
    obtain ⟨Ai, ci, rfl⟩ := Kd.R_slice hRi
    replace hpx : pre.map (fun i => i.2.2.2) ++ [s] <+: T := hpx
    have hlen : pre.length + 1 ≤ T.length := by
      have := hpx.length_le
      simpa using this
    have hTp : T[pre.length]? = some s := by
      obtain ⟨r, hr⟩ := hpx
      rw [← hr, List.append_assoc, List.getElem?_append_right (by simp)]
      simp
    obtain ⟨p, hp⟩ : ∃ p, p = pre.length := ⟨_, rfl⟩
    rw [← hp] at hlen hTp hv
    simp only [← hp]
    have bW9 := box_other hg bW8 (by omega)
    obtain ⟨q, hq⟩ : ∃ q, q = p + 1 := ⟨_, rfl⟩
    have hw : IntKind.i64.wrap ((p : Int) + 1) = (q : Int) := by rw [i64_w]; unfold wrap64; omega
    have hge := eq_false (show ¬ (T.length : Int) ≤ (p : Int) by omega)
    have hge2 := eq_false (show ¬ T.length ≤ p by omega)
    -- the cells that are read
    have hSV : ∀ w', Below V.heap.size V w' → (w'.cell? ⟨w5.heap.size, 0, none⟩ = some (.int .i64 (p : Int)) ∧ w'.cell? ⟨w2.heap.size, 0, none⟩ = some (.slice Aw T.length cw) ∧ w'.cell? ⟨Bx, 0, none⟩ = some (.slice Ao s.f0.length co) ∧ w'.cell? ⟨Bx, 1, none⟩ = some (.slice Ai s.f1.length ci)) := fun w' h =>
      ⟨pw_cell_below h hv.cell, pw_cell_below h bW9.cell, pw_cell_below h ((blk_cell bX 0).trans rfl), pw_cell_below h ((blk_cell bX 1).trans rfl)⟩
    obtain ⟨X, hX⟩ : ∃ X, X = (V.alloc (.cells #[.slice Ao s.f0.length co, .slice Ai s.f1.length ci] 33)).drew := ⟨_, rfl⟩
    have hbX : Below V.heap.size V X := by rw [hX]; exact below_drew1 ((Below.refl _ V).alloc (Nat.le_refl _) _)
    have hXn : X.heap[V.heap.size]? = some (.cells #[.slice Ao s.f0.length co, .slice Ai s.f1.length ci] 33 (0, 0)) := by rw [hX]; exact World.alloc_heap_new V _
    have HDREW := Lib.hid (hSV V.drew (below_drew1 (Below.refl _ V)))
    have HALLOC := Lib.hid (hSV X hbX)
    have HBACK := Lib.hid (show ∀ V2, Below X.heap.size X V2 → _ from fun V2 h => hSV V2 (below_step hbX h))
    have hro := Kd.R_reads' hRo
    have hri := Kd.R_reads' hRi
    have hC1 : Kd.C k33 X (some ⟨V.heap.size, 0, none⟩) ([s] : List S33).length [s] := reads_k33 (by simp) (fun _ => Ao) (fun _ => Ai) (fun _ => co) (fun _ => ci) (fun j x hj => by
      match j, hj with
      | 0, hj =>
        injection hj with hj
        subst hj
        exact ⟨(blk_cell hXn 0).trans rfl, (blk_cell hXn 1).trans rfl, hro.2.1, Kd.C_below hro.2.2 hbX, hri.2.1, Kd.C_below hri.2.2 hbX⟩)
    obtain ⟨i0, hi0, hisz⟩ := Option.map_eq_some_iff.1 (show (Try.prog.info? 33).map (·.size) = some 2 by kernel_rfl)
    have hcut := cut_mid (P := Try.prog) 24 33 .i64 .i64 Try.underlying24 hi0 2 hisz Aw T.length cw (p : Int) (q : Int) (by omega) (by omega) (by omega) hcw
    simp only [Int.toNat_natCast] at hcut
    rw [show q - p = 1 by omega] at hcut
    have hmid := Kd.C_mid (lo := p) (hi := q) (Kd.C_below (Kd.F_now (Kd.F_grown HFW8.out hg (fun k hk e => by injection e with e; have hk : k < w2.heap.size := hk; omega))) hbX) (by omega) (by omega) hcw
    have hone : (T.take q).drop p = [s] := by
      have hlt : p < T.length := by omega
      rw [hq, List.take_succ_eq_append_getElem hlt, List.drop_append_of_le_length (by rw [List.length_take]; omega), List.drop_of_length_le (by rw [List.length_take]; omega)]
      rw [List.getElem?_eq_getElem hlt] at hTp
      injection hTp with hTp
      rw [hTp]
      rfl
    rw [hone] at hmid
    obtain ⟨A3, hA3⟩ : ∃ A3, A3 = (if cw = p then Aw else Aw.map (·.add (p * 2))) := ⟨_, rfl⟩
    obtain ⟨c3, hc3⟩ : ∃ c3, c3 = cw - p := ⟨_, rfl⟩
    rw [← hA3, ← hc3] at hcut
    replace hmid : Kd.C k33 X A3 ([s] : List S33).length [s] := by rw [hA3]; exact hmid
    have hcall := cuecardref10_Same.calls 2 (some ⟨V.heap.size, 0, none⟩) 1 [s] A3 c3 [s] true X hC1 (Nat.le_refl _) hmid (by show 1 ≤ c3; omega) (same_f [s] (by simp) (by simp))
    replace hcall : Calls Try.prog 11 #[.slice (some ⟨V.heap.size, 0, none⟩) 1 1, .slice A3 1 c3] X (fun e w' => e = .returned (.bool true) ∧ Below X.heap.size X w') := hcall
    rw [hX] at hcall
    have HCALL := Lib.hid hcall
    have HBX := Lib.hid hbX
    rw [hX] at HALLOC HBACK HBX
    have hpp : (pre ++ [((p, .slice Ao s.f0.length co, .slice Ai s.f1.length ci, s) : TIt)]).length = q := by simp; omega
    have HPP := Lib.hid hpp
    have HQ := Lib.hid hq
    clear hSV hXn hro hri hC1 hi0 hisz hmid hone hA3 hc3 hcall hbX hpp hRo hRi bX bW9 hpx hTp hp hq
    refine wpIn_block ?_
    refine wpIn_seq ?_
    refine wpIn_seq ?_
    refine region_held_inRound (S := fun w' => w'.cell? ⟨w5.heap.size, 0, none⟩ = some (.int .i64 (p : Int)) ∧ w'.cell? ⟨w2.heap.size, 0, none⟩ = some (.slice Aw T.length cw) ∧ w'.cell? ⟨Bx, 0, none⟩ = some (.slice Ao s.f0.length co) ∧ w'.cell? ⟨Bx, 1, none⟩ = some (.slice Ai s.f1.length ci)) (fun _ _ h => h) (by kernel_rfl) (by kernel_rfl) HDREW.out (fun hHeld => ?_)
    refine wpAnyH_take (i := 0) (oi := { dst := some 20, op := Go.Op.move (Go.Operand.tmp 5), type := 3, pos := "law.go:28", after := #[], guard := none }) (v := ?_) rfl (by kernel_rfl) (by kernel_rfl) (by kernel_rfl) (fun _ _ _ h => h) (Or.inl ⟨by rfl, ?_⟩) hHeld ?_
    rotate_left
    · (intro w hSw; (try dsimp only at hSw); go_simp; (try with_reducible rfl))
    try simp only [Act.put, List.setIfInBounds_toArray, List.set_cons_zero, List.set_cons_succ]
    refine wpAnyH_take (i := 1) (oi := { dst := some 21, op := Go.Op.load 3 (Go.Operand.tmp 4), type := 3, pos := "law.go:28", after := #[], guard := none }) (v := ?_) rfl (by kernel_rfl) (by kernel_rfl) (by kernel_rfl) (fun _ _ _ h => h) (Or.inl ⟨by rfl, ?_⟩) hHeld ?_
    rotate_left
    · (intro w hSw; (try dsimp only at hSw); go_simp; (try with_reducible rfl))
    try simp only [Act.put, List.setIfInBounds_toArray, List.set_cons_zero, List.set_cons_succ]
    refine wpAnyH_take (i := 2) (oi := { dst := some 22, op := Go.Op.binOp Go.BinOp.neq 3 (Go.Operand.tmp 20) (Go.Operand.tmp 21) 3, type := 4, pos := "law.go:28", after := #[{ on := 0, ground := Go.Ground.data }, { on := 1, ground := Go.Ground.data }], guard := none }) (v := ?_) rfl (by kernel_rfl) (by kernel_rfl) (by kernel_rfl) (fun _ _ _ h => h) (Or.inl ⟨by rfl, ?_⟩) hHeld ?_
    rotate_left
    · (intro w hSw; (try dsimp only at hSw); go_simp; (try with_reducible rfl))
    try simp only [Act.put, List.setIfInBounds_toArray, List.set_cons_zero, List.set_cons_succ]
    refine wpAnyH_take (i := 3) (oi := { dst := some 23, op := Go.Op.move (Go.Operand.tmp 22), type := 4, pos := "law.go:28", after := #[{ on := 2, ground := Go.Ground.data }], guard := none }) (v := ?_) rfl (by kernel_rfl) (by kernel_rfl) (by kernel_rfl) (fun _ _ _ h => h) (Or.inl ⟨by rfl, ?_⟩) hHeld ?_
    rotate_left
    · (intro w hSw; (try dsimp only at hSw); go_simp; (try with_reducible rfl))
    try simp only [Act.put, List.setIfInBounds_toArray, List.set_cons_zero, List.set_cons_succ]
    refine wpAnyH_take (i := 4) (oi := { dst := some 24, op := Go.Op.load 3 (Go.Operand.tmp 4), type := 3, pos := "law.go:28", after := #[{ on := 3, ground := Go.Ground.guard }], guard := some (3, false) }) (v := ?_) rfl (by kernel_rfl) (by kernel_rfl) (by kernel_rfl) (fun _ _ _ h => h) (Or.inl ⟨by rfl, ?_⟩) hHeld ?_
    rotate_left
    · (intro w hSw; (try dsimp only at hSw); go_simp; (try with_reducible rfl))
    try simp only [Act.put, List.setIfInBounds_toArray, List.set_cons_zero, List.set_cons_succ]
    refine wpAnyH_take (i := 5) (oi := { dst := some 25, op := Go.Op.load 24 (Go.Operand.tmp 3), type := 24, pos := "law.go:28", after := #[{ on := 3, ground := Go.Ground.guard }], guard := some (3, false) }) (v := ?_) rfl (by kernel_rfl) (by kernel_rfl) (by kernel_rfl) (fun _ _ _ h => h) (Or.inl ⟨by rfl, ?_⟩) hHeld ?_
    rotate_left
    · (intro w hSw; (try dsimp only at hSw); go_simp; (try with_reducible rfl))
    try simp only [Act.put, List.setIfInBounds_toArray, List.set_cons_zero, List.set_cons_succ]
    refine wpAnyH_take (i := 6) (oi := { dst := some 26, op := Go.Op.call { callee := Go.Callee.builtin Go.Builtin.len, args := #[Go.Operand.tmp 25], argTypes := #[24] }, type := 3, pos := "law.go:28", after := #[{ on := 5, ground := Go.Ground.data }, { on := 3, ground := Go.Ground.guard }], guard := some (3, false) }) (v := ?_) rfl (by kernel_rfl) (by kernel_rfl) (by kernel_rfl) (fun _ _ _ h => h) (Or.inl ⟨by rfl, ?_⟩) hHeld ?_
    rotate_left
    · (intro w hSw; (try dsimp only at hSw); go_simp; (try with_reducible rfl))
    try simp only [Act.put, List.setIfInBounds_toArray, List.set_cons_zero, List.set_cons_succ]
    refine wpAnyH_take (i := 7) (oi := { dst := some 27, op := Go.Op.binOp Go.BinOp.geq 3 (Go.Operand.tmp 24) (Go.Operand.tmp 26) 3, type := 4, pos := "law.go:28", after := #[{ on := 4, ground := Go.Ground.data }, { on := 6, ground := Go.Ground.data }, { on := 3, ground := Go.Ground.guard }], guard := some (3, false) }) (v := ?_) rfl (by kernel_rfl) (by kernel_rfl) (by kernel_rfl) (fun _ _ _ h => h) (Or.inl ⟨by rfl, ?_⟩) hHeld ?_
    rotate_left
    · (intro w hSw; (try dsimp only at hSw); go_simp; (try with_reducible rfl))
    try simp only [Act.put, List.setIfInBounds_toArray, List.set_cons_zero, List.set_cons_succ]
    refine wpAnyH_take (i := 8) (oi := { dst := some 28, op := Go.Op.pick (Go.Operand.tmp 23) (Go.Operand.const (Go.Value.bool true)) (Go.Operand.tmp 27), type := 4, pos := "law.go:28", after := #[{ on := 3, ground := Go.Ground.data }, { on := 7, ground := Go.Ground.data }], guard := none }) (v := ?_) rfl (by kernel_rfl) (by kernel_rfl) (by kernel_rfl) (fun _ _ _ h => h) (Or.inl ⟨by rfl, ?_⟩) hHeld ?_
    rotate_left
    · (intro w hSw; (try dsimp only at hSw); go_simp; (try with_reducible rfl))
    try simp only [Act.put, List.setIfInBounds_toArray, List.set_cons_zero, List.set_cons_succ]
    refine wpAnyH_take (i := 9) (oi := { dst := some 29, op := Go.Op.move (Go.Operand.tmp 28), type := 4, pos := "law.go:28", after := #[{ on := 8, ground := Go.Ground.data }, { on := 3, ground := Go.Ground.chain }], guard := none }) (v := ?_) rfl (by kernel_rfl) (by kernel_rfl) (by kernel_rfl) (fun _ _ _ h => h) (Or.inl ⟨by rfl, ?_⟩) hHeld ?_
    rotate_left
    · (intro w hSw; (try dsimp only at hSw); go_simp; (try with_reducible rfl))
    try simp only [Act.put, List.setIfInBounds_toArray, List.set_cons_zero, List.set_cons_succ]
    refine wpAnyH_take (i := 10) (oi := { dst := some 30, op := Go.Op.load 33 (Go.Operand.tmp 6), type := 33, pos := "law.go:28", after := #[{ on := 9, ground := Go.Ground.guard }], guard := some (9, false) }) (v := ?_) rfl (by kernel_rfl) (by kernel_rfl) (by kernel_rfl) (fun _ _ _ h => h) (Or.inl ⟨by rfl, ?_⟩) hHeld ?_
    rotate_left
    · (intro w hSw; (try dsimp only at hSw); go_simp; (try with_reducible rfl))
    try simp only [Act.put, List.setIfInBounds_toArray, List.set_cons_zero, List.set_cons_succ]
    refine wpAnyH_take (i := 12) (oi := { dst := some 32, op := Go.Op.load 24 (Go.Operand.tmp 3), type := 24, pos := "law.go:28", after := #[{ on := 9, ground := Go.Ground.guard }], guard := some (9, false) }) (v := ?_) rfl (by kernel_rfl) (by kernel_rfl) (by kernel_rfl) (fun _ _ _ h => h) (Or.inl ⟨by rfl, ?_⟩) hHeld ?_
    rotate_left
    · (intro w hSw; (try dsimp only at hSw); go_simp; (try with_reducible rfl))
    try simp only [Act.put, List.setIfInBounds_toArray, List.set_cons_zero, List.set_cons_succ]
    refine wpAnyH_take (i := 13) (oi := { dst := some 33, op := Go.Op.load 3 (Go.Operand.tmp 4), type := 3, pos := "law.go:28", after := #[{ on := 9, ground := Go.Ground.guard }], guard := some (9, false) }) (v := ?_) rfl (by kernel_rfl) (by kernel_rfl) (by kernel_rfl) (fun _ _ _ h => h) (Or.inl ⟨by rfl, ?_⟩) hHeld ?_
    rotate_left
    · (intro w hSw; (try dsimp only at hSw); go_simp; (try with_reducible rfl))
    try simp only [Act.put, List.setIfInBounds_toArray, List.set_cons_zero, List.set_cons_succ]
    refine wpAnyH_take (i := 14) (oi := { dst := some 34, op := Go.Op.load 3 (Go.Operand.tmp 4), type := 3, pos := "law.go:28", after := #[{ on := 9, ground := Go.Ground.guard }], guard := some (9, false) }) (v := ?_) rfl (by kernel_rfl) (by kernel_rfl) (by kernel_rfl) (fun _ _ _ h => h) (Or.inl ⟨by rfl, ?_⟩) hHeld ?_
    rotate_left
    · (intro w hSw; (try dsimp only at hSw); go_simp; (try with_reducible rfl))
    try simp only [Act.put, List.setIfInBounds_toArray, List.set_cons_zero, List.set_cons_succ]
    refine wpAnyH_take (i := 15) (oi := { dst := some 35, op := Go.Op.binOp Go.BinOp.add 3 (Go.Operand.tmp 34) (Go.Operand.const (Go.Value.int Go.IntKind.i64 1)) 3, type := 3, pos := "law.go:28", after := #[{ on := 14, ground := Go.Ground.data }, { on := 9, ground := Go.Ground.guard }], guard := some (9, false) }) (v := ?_) rfl (by kernel_rfl) (by kernel_rfl) (by kernel_rfl) (fun _ _ _ h => h) (Or.inl ⟨by rfl, ?_⟩) hHeld ?_
    rotate_left
    · (intro w hSw; (try dsimp only at hSw); go_simp; (try with_reducible rfl))
    try simp only [Act.put, List.setIfInBounds_toArray, List.set_cons_zero, List.set_cons_succ]
    refine wpAnyH_take (i := 16) (oi := { dst := some 36, op := Go.Op.slice 24 (Go.Operand.tmp 32) (some (Go.Operand.tmp 33)) (some (Go.Operand.tmp 35)) none, type := 24, pos := "law.go:28", after := #[{ on := 12, ground := Go.Ground.data }, { on := 13, ground := Go.Ground.data }, { on := 15, ground := Go.Ground.data }, { on := 9, ground := Go.Ground.guard }], guard := some (9, false) }) (v := ?_) rfl (by kernel_rfl) (by kernel_rfl) (by kernel_rfl) (fun _ _ _ h => h) (Or.inl ⟨by rfl, ?_⟩) hHeld ?_
    rotate_left
    · (intro w hSw; (try dsimp only at hSw); go_simp; (try with_reducible rfl))
    try simp only [Act.put, List.setIfInBounds_toArray, List.set_cons_zero, List.set_cons_succ]
    refine wpAnyH_ready (rs := [11]) (by kernel_rfl) (by simp) ?_
    refine AllReadyH.cons (o := { dst := some 31, op := Go.Op.buildSlice 24 1 #[(0, Go.Operand.tmp 30)], type := 24, pos := "law.go:28", after := #[{ on := 10, ground := Go.Ground.data }, { on := 9, ground := Go.Ground.guard }], guard := some (9, false) }) rfl (fun K hK => ?_) AllReadyH.nil
    go_simp
    refine hK.out _ _ HALLOC.out (fun hHeld2 => ?_)
    clear hK K
    try simp only [Act.put, List.setIfInBounds_toArray, List.set_cons_zero, List.set_cons_succ]
    refine wpAnyH_ready (rs := [17]) (by kernel_rfl) (by simp) ?_
    refine AllReadyH.cons (o := { dst := some 37, op := Go.Op.call { callee := Go.Callee.value (Go.Operand.func 11), args := #[Go.Operand.tmp 31, Go.Operand.tmp 36], argTypes := #[24, 24] }, type := 4, pos := "law.go:28", after := #[{ on := 11, ground := Go.Ground.data }, { on := 16, ground := Go.Ground.data }, { on := 9, ground := Go.Ground.chain }, { on := 9, ground := Go.Ground.guard }], guard := some (9, false) }) rfl (fun K hK => ?_) AllReadyH.nil
    go_simp
    refine HCALL.out.mono ?_
    rintro e V2 ⟨rfl, hB2⟩
    refine hK.out _ _ (HBACK.out V2 hB2) (fun hHeld3 => ?_)
    clear hK K
    try simp only [Act.put, List.setIfInBounds_toArray, List.set_cons_zero, List.set_cons_succ]
    refine wpAnyH_take (i := 18) (oi := { dst := some 38, op := Go.Op.unOp Go.UnOp.not 4 (Go.Operand.tmp 37), type := 4, pos := "law.go:28", after := #[{ on := 17, ground := Go.Ground.data }, { on := 9, ground := Go.Ground.guard }], guard := some (9, false) }) (v := ?_) rfl (by kernel_rfl) (by kernel_rfl) (by kernel_rfl) (fun _ _ _ h => h) (Or.inl ⟨by rfl, ?_⟩) hHeld3 ?_
    rotate_left
    · (intro w hSw; (try dsimp only at hSw); go_simp; (try with_reducible rfl))
    try simp only [Act.put, List.setIfInBounds_toArray, List.set_cons_zero, List.set_cons_succ]
    refine wpAnyH_take (i := 19) (oi := { dst := some 39, op := Go.Op.pick (Go.Operand.tmp 29) (Go.Operand.const (Go.Value.bool true)) (Go.Operand.tmp 38), type := 4, pos := "law.go:28", after := #[{ on := 9, ground := Go.Ground.data }, { on := 18, ground := Go.Ground.data }], guard := none }) (v := ?_) rfl (by kernel_rfl) (by kernel_rfl) (by kernel_rfl) (fun _ _ _ h => h) (Or.inl ⟨by rfl, ?_⟩) hHeld3 ?_
    rotate_left
    · (intro w hSw; (try dsimp only at hSw); go_simp; (try with_reducible rfl))
    try simp only [Act.put, List.setIfInBounds_toArray, List.set_cons_zero, List.set_cons_succ]
    refine wpAnyH_done (by kernel_rfl) ?_ _
    have hB3 : Below V.heap.size V V2 := below_step HBX.out hB2
    have hN2 : Boxed V2 w5.heap.size 3 (.int .i64 (p : Int)) := (hB3.block _ hv.lt).trans hv
    have hc2 := hN2.cell
    have hf2 := hN2.frozen
    have HB3 := Lib.hid hB3
    have HN2 := Lib.hid hN2
    have HV := Lib.hid hv
    have HG := Lib.hid hg
    clear hHeld hHeld2 hHeld3 hB2 HALLOC HBACK HDREW HCALL HBX hcut hge hge2 hB3 hN2 hv hg hX
    show (Code.cond _ _ _).wpIn _ _ _ _ _ _
    gi_wp2
    have hN3 : Boxed (V2.setCell ⟨w5.heap.size, 0, none⟩ (.int .i64 (q : Int))) w5.heap.size 3 (.int .i64 (q : Int)) := HN2.out.set _
    have hgV : V.grownBy (V2.setCell ⟨w5.heap.size, 0, none⟩ (.int .i64 (q : Int))) (some w5.heap.size) := (grown_of_below HB3.out (some w5.heap.size)).trans (grownBy_setCell' V2 w5.heap.size _)
    exact ⟨KeepsFrom.of_grownBy hgV (fun j e => by injection e with e; omega), keep_int HV.out hN3 hgV, HG.out.trans hgV, by rw [HPP.out]; exact hN3⟩
  case done =>
    rintro D xs V hD hS ⟨hg, hv⟩ hK
    have hxl : xs.length = T.length := by rw [← hS, List.length_map]
    rw [hxl] at hv
    have bW9 := box_other hg bW8 (by omega)
    have bR9 := box_other hg bR8 (by omega)
    have cN := hv.cell
    have cW := bW9.cell
    have cR := bR9.cell
    have fR := bR9.frozen
    have hB9 : Below W.heap.size W (V.setCell ⟨W.heap.size, 0, none⟩ (.bool true)) := by
      have h1 : Below W.heap.size W V := hB8.grown hg hB8.size (fun k e => by injection e with e; omega)
      exact h1.setCell (p := ⟨W.heap.size, 0, none⟩) (Nat.le_refl _) _
    have HB9 := Lib.hid hB9
    have HR9 := Lib.hid (bR9.set (.bool true))
    clear hseq hv1 bL bN8 bR8 bW8 hB8 bW9 bR9 hv hB9
    go_wp2
    have hDn : D ≠ W.heap.size := by omega
    have hK2 : (V.setCell ⟨W.heap.size, 0, none⟩ (.bool true)).heap[D]? = some (.deferred (some [])) := (Below.heap_setCell V ⟨W.heap.size, 0, none⟩ _ D hDn).trans hK
    generalize V.setCell ⟨W.heap.size, 0, none⟩ (.bool true) = Y at HB9 HR9 hK2 ⊢
    refine ⟨by simp, .inl ⟨_, _, rfl, run_takeDeferred hK2, ?_⟩⟩
    have hcR : (Y.putObj D (.deferred none)).cell? ⟨W.heap.size, 0, none⟩ = some (.bool true) := (World.cell?_of_block (a := ⟨W.heap.size, 0, none⟩) (World.putObj_heap_other (Ne.symm hDn))).trans HR9.out.cell
    have hBY := HB9.out.trans (belowK_b (w := W) (Nat.le_refl _) Y D _ (.deferred none) (by omega) hK2 rfl rfl)
    have hld : (loadVar 4 ⟨W.heap.size, 0, none⟩).run Try.prog (Y.putObj D (.deferred none)) = .ok (.bool true) (Y.putObj D (.deferred none)) := by
      go_simp
    exact ⟨_, results_cell1 rfl _ _ _ ⟨W.heap.size, 0, none⟩ _ rfl hld, rfl, hBY⟩
  case stop =>
    rintro D pre V _ _ h _
    exact h.elim
end Go.Proofs.Ytjcaflhlilckgaa.QA
