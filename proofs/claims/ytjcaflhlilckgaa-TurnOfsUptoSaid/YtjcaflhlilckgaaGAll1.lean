import Derived.RangeFuncNested
import Derived.RangeFuncBound
import Derived.RangeFuncCalls
import Derived.RangeFuncLeaves
import Derived.Shelf.Abstract
import Derived.Shelf.RegionOpen
import Derived.WalkKit
import Derived.OwnWalkIn
import Derived.TacticsInMore
import Derived.LoopNIn
import Derived.LoopIn
import Derived.Maps.AppendAt
import Derived.StillTailTactics
import Derived.Lib.Hide
import Derived.Outline
import Derived.Deep.RegionWith
import Derived.Deep.RegionLaw
import Derived.Deep.AppendLies
import Derived.Test.YtjcaflhlilckgaaGAll0
import Derived.Test.YtjcaflhlilckgaaGLaw
import Derived.CallsIn
namespace Go.Proofs.Ytjcaflhlilckgaa.QA
open Go.RowKit Go.Shelf Go.Proofs.YtjcaflhlilckgaaW.PrintWords Go.Proofs.YtjcaflhlilckgaaW.PrintLast Go.Proofs.YtjcaflhlilckgaaW.PrintMore
attribute [local go_sem] Oper.semAt_some
set_option linter.unusedVariables false
set_option linter.unusedSimpArgs false
/-- block k is written by the iterator alone: a variable of a turn, no box or row of the body's -/
def CT (n₀ b : Nat) (W : World) (k : Nat) : Prop := n₀ ≤ k ∧ ¬ Free b W k ∧ ∃ cells, W.heap[k]? = some (.cells cells 33 (0, 0))
theorem two_set {W : World} {g : Nat} {t : TypeId} {a b c d : Value} (h : W.heap[g]? = some (.cells #[a, b] t (0, 0))) : ((W.setCell ⟨g, 0, none⟩ c).setCell ⟨g, 1, none⟩ d).heap[g]? = some (.cells #[c, d] t (0, 0)) := by
  have h1 := blk_set h 0 c
  have h2 := blk_set h1 1 d
  simpa using h2
theorem two_snd {W : World} {g : Nat} {t : TypeId} {a b d : Value} (h : W.heap[g]? = some (.cells #[a, b] t (0, 0))) : (W.setCell ⟨g, 1, none⟩ d).heap[g]? = some (.cells #[a, d] t (0, 0)) := by
  have h2 := blk_set h 1 d
  simpa using h2
theorem grownBy_set (W : World) (b j : Nat) (v : Value) : W.grownBy (W.setCell ⟨b, j, none⟩ v) (some b) :=
  ⟨rfl, rfl, rfl, by simp [World.setCell], fun k _ hk => Below.heap_setCell W ⟨b, j, none⟩ v k (by intro e; exact hk (by rw [e]))⟩
/-- what stands at a round's head: the prefix that was told, the turn's variable, what was merged -/
structure Inv (b n₀ n₁ Bt : Nat) (W1 : World) (J : List TIt → World → Prop) (xs : List TIt) (W : World) (vo vi : Value) : Prop where
  j : J xs W
  bt : W.heap[Bt]? = some (.cells #[vo, vi] 33 (0, 0))
  fb : ¬ Free b W Bt
  k : Kpt b n₁ W1 W
  nf : NF b W
  bl : b < W.heap.size
section inv
variable {b n₀ n₁ Bt : Nat} {W1 W W' : World} {J : List TIt → World → Prop} {xs : List TIt} {vo vi : Value}
theorem Inv.alloc (h : Inv b n₀ n₁ Bt W1 J xs W vo vi) (hJ : AbC (CT n₀ b) J) (o : Obj) : Inv b n₀ n₁ Bt W1 J xs (W.alloc o) vo vi := by
  have hg : W.grownBy (W.alloc o) none := World.grownBy_alloc _ _ _
  have hlt := (Array.getElem?_eq_some_iff.1 h.bt).1
  exact ⟨abC_alloc hJ o h.j, (hg.block _ hlt (by intro e; cases e)).trans h.bt, mt (free_eq (hg.block b h.bl (by intro e; cases e)) Bt).1 h.fb, h.k.grown hg h.bl (fun r hr => by cases hr), h.nf.grown hg h.bl (by intro e; cases e), Nat.lt_of_lt_of_le h.bl hg.size⟩
theorem Inv.turned (h : Inv b n₀ n₁ Bt W1 J xs W vo vi) (hJ : AbC (CT n₀ b) J) (h0 : n₀ ≤ Bt) (h1 : Bt < n₁) (hb : b ≠ Bt) {co ci : Value} (hg : W.grownBy W' (some Bt)) (hbt : W'.heap[Bt]? = some (.cells #[co, ci] 33 (0, 0))) : Inv b n₀ n₁ Bt W1 J xs W' co ci := by
  have hne : some b ≠ some Bt := fun e => hb (by injection e)
  have hf := mt (free_eq (hg.block b h.bl hne) Bt).1 h.fb
  exact ⟨hJ _ _ _ _ h.j hg (fun r hr => by injection hr with hr; subst hr; exact ⟨⟨h0, h.fb, _, h.bt⟩, _, h.bt, rfl⟩), hbt, hf, h.k.grown hg h.bl (fun r hr => by injection hr with hr; subst hr; exact ⟨h1, fun e => hb e.symm⟩), h.nf.grown hg h.bl hne, Nat.lt_of_lt_of_le h.bl hg.size⟩
theorem Inv.snd (h : Inv b n₀ n₁ Bt W1 J xs W vo vi) (hJ : AbC (CT n₀ b) J) (h0 : n₀ ≤ Bt) (h1 : Bt < n₁) (hb : b ≠ Bt) (d : Value) : Inv b n₀ n₁ Bt W1 J xs (W.setCell ⟨Bt, 1, none⟩ d) vo d :=
  h.turned hJ h0 h1 hb (grownBy_set W Bt 1 d) (two_snd h.bt)
theorem Inv.two (h : Inv b n₀ n₁ Bt W1 J xs W vo vi) (hJ : AbC (CT n₀ b) J) (h0 : n₀ ≤ Bt) (h1 : Bt < n₁) (hb : b ≠ Bt) (c d : Value) : Inv b n₀ n₁ Bt W1 J xs ((W.setCell ⟨Bt, 0, none⟩ c).setCell ⟨Bt, 1, none⟩ d) c d :=
  h.turned hJ h0 h1 hb ((grownBy_set W Bt 0 c).trans (grownBy_set _ Bt 1 d)) (two_set h.bt)
theorem Inv.keep (h : Inv b n₀ n₁ Bt W1 J xs W vo vi) {xs' : List TIt} (hj : J xs' W') (k : Keep b W W') : Inv b n₀ n₁ Bt W1 J xs' W' vo vi :=
  ⟨hj, k.cells h.bt rfl h.fb, k.2.2.1 _ (Array.getElem?_eq_some_iff.1 h.bt).1 h.fb, h.k.keep k, k.2.2.2 h.nf, Nat.lt_of_lt_of_le h.bl k.1⟩
theorem Inv.cells (h : Inv b n₀ n₁ Bt W1 J xs W vo vi) : W.cell? ⟨Bt, 0, none⟩ = some vo ∧ W.cell? ⟨Bt, 1, none⟩ = some vi ∧ W.frozen? ⟨Bt, 0, none⟩ = false ∧ W.frozen? ⟨Bt, 1, none⟩ = false := by
  refine ⟨(blk_cell h.bt 0).trans rfl, (blk_cell h.bt 1).trans rfl, blk_frozen h.bt 0, blk_frozen h.bt 1⟩
end inv
set_option maxRecDepth 100000 in
set_option maxHeartbeats 1000000 in
/-- the closure of turn.All -/
theorem all1_in (K : Nat) (b n₀ : Nat) (n : Nat) (hn : 1 ≤ n) (l : Nat) (Bl : Nat) (A : Option Addr) (cap : Nat) (ls evs : List S37)
    (hls : ls.length ≤ 1048576) (hev : evs.length ≤ 1048576) (hes : ∀ e ∈ evs, e.f2.length ≤ 1048576) (hr : turn_right.f K ls = some evs)
    (J Jx : List TIt → World → Prop) (hbn : b < n₀) (W : World) (hn₀ : n₀ ≤ W.heap.size)
    (hY : ∀ pre x W, J pre W → NxT n₀ (turns evs) pre x W → YieldAt Fence.wide (n - 1) Try.prog l x.enc W fun e W' =>
      (e = .returned (.bool true) ∧ J (pre ++ [x]) W' ∧ Keep b W W') ∨ (e = .returned (.bool false) ∧ Jx (pre ++ [x]) W'))
    (hJ : AbC (CT n₀ b) J) (hJx : AbC (CT n₀ b) Jx) (hBl : Boxed W Bl 22 (.slice A ls.length cap)) (hv1 : Kd.V k37 37 W W.heap.size (fun _ => True) (.slice A ls.length cap) ls)
    (hv : ∃ t v, Boxed W b t v ∧ ∀ k, v.ownBlock = some k → k < W.heap.size) (hJ0 : J [] W) :
    CallsIn Fence.wide n Try.prog 23 #[.func (.yield l) #[] #[], .pointer (some ⟨Bl, 0, none⟩)] W fun e W' => (∃ v, e = .returned v) ∧
      ((∃ ys : List TIt, ys.map (fun i => i.2.2.2) = turns evs ∧ J ys W') ∨ (∃ pre : List TIt, pre.map (fun i => i.2.2.2) <+: turns evs ∧ Jx pre W')) := by
  have hcB := hBl.cell
  have h24 : Fence.wide.fn 24 := trivial
  have hlt : ∀ {W : World} {i : Nat} {o : Obj}, W.heap[i]? = some o → i < W.heap.size := fun hi => (Array.getElem?_eq_some_iff.1 hi).1
  have hbW : b < W.heap.size := Nat.lt_of_lt_of_le hbn hn₀
  obtain ⟨t0, v0, hv0, hv0k⟩ := hv
  have hnf : ∀ k, W.heap.size ≤ k → ¬ Free b W k := by
    rintro k hk (h | ⟨v, hv1, hv2⟩)
    · omega
    · rw [hv0.cell] at hv1; cases hv1; have := hv0k _ hv2; omega
  -- the variable t, and what the call of right leaves
  obtain ⟨W0, hW0⟩ : ∃ W0, W0 = W.alloc (.cells #[.slice none 0 0, .slice none 0 0] 33) := ⟨_, rfl⟩
  have hB0 : Below W.heap.size W W0 := by rw [hW0]; exact (Below.refl _ W).alloc (Nat.le_refl _) _
  have hBt0 : W0.heap[W.heap.size]? = some (.cells #[.slice none 0 0, .slice none 0 0] 33 (0, 0)) := by rw [hW0]; exact World.alloc_heap_new W _
  have hsz0 : W0.heap.size = W.heap.size + 1 := by rw [hW0]; simp
  have hbl0 := (hB0.block _ hBl.lt).trans hBl
  have hcB0 : (W.alloc (.cells #[.slice none 0 0, .slice none 0 0] 33)).cell? ⟨Bl, 0, none⟩ = some (.slice A ls.length cap) := by rw [← hW0]; exact pw_cell_below hB0 hcB
  have hright := (callsIn_wide (n := n - 1)).2 (turn_right.calls K (fun _ => True) A cap ls evs W0 (Kd.V_below hv1 hB0) hr)
  have hJ0' : J [] W0 := by rw [hW0]; exact abC_alloc hJ _ hJ0
  obtain ⟨Bt, hBt⟩ : ∃ Bt, Bt = W.heap.size := ⟨_, rfl⟩
  have HS := Lib.hid (show ∀ (a c : Nat), a ≤ 1048576 → c ≤ 1048576 → wrap64 ((a : Int) + (c : Int)) = (a : Int) + (c : Int) from fun a c ha hc => by unfold wrap64; omega)
  refine callsIn_of_wp Try.func23 rfl trivial ?_ rfl
  simp only [Try.ntmps23, List.size_toArray, List.length_cons, List.length_nil, Nat.reduceAdd, Nat.reduceSub, Array.replicate_succ, Array.replicate_zero, List.push_toArray, List.append_toArray, List.nil_append, List.cons_append]
  gi_wp2_with (gi_at_call 24; rw [← hW0]; refine hright.mono ?_; rintro e W1 ⟨vE, rfl, hS, hbel⟩; obtain ⟨Ae, cE, its, rfl, hmap, hrows, hat⟩ := items (Kd.S_R hS))
  have hn₁ : W0.heap.size = Bt + 1 := by omega
  have hbB : b < Bt := by omega
  have hW1 : W0.heap.size ≤ W1.heap.size := hbel.size
  have hJ1 : J [] W1 := hJ [] W0 W1 none hJ0' ⟨hbel.os, hbel.tape, hbel.output, hbel.size, fun k hk _ => hbel.block k hk⟩ (fun r hr => by cases hr)
  have hFr : ∀ k, Free b W1 k ↔ Free b W k := free_eq ((hbel.block b (by omega)).trans (hB0.block b hbW))
  have hNF1 : NF b W1 := fun k hk hf => hnf k (by have := hB0.size; omega) ((hFr k).1 hf)
  have hK1 : Kpt b W0.heap.size W1 W1 := ⟨Nat.le_refl _, fun k q cells hk hc => ⟨hc, fun hf => hnf k (by omega) ((hFr k).1 hf)⟩⟩
  have hBt1 : W1.heap[Bt]? = some (.cells #[.slice none 0 0, .slice none 0 0] 33 (0, 0)) := by rw [hBt]; exact (hbel.block _ (by omega)).trans hBt0
  have hfB1 : ¬ Free b W1 Bt := fun hf => hnf Bt (by omega) ((hFr Bt).1 hf)
  have hlen : its.length = evs.length := by rw [← hmap, List.length_map]
  have hE : ∀ (k : Nat) (h : k < its.length) (h2 : k < evs.length), its[k].1 = evs[k] := fun k h h2 => by
    have : (its.map (·.1))[k]? = evs[k]? := by rw [hmap]
    rw [List.getElem?_map, List.getElem?_eq_getElem h, List.getElem?_eq_getElem h2] at this
    simpa using this
  generalize hn1 : W0.heap.size = n₁ at *
  clear hright hB0 hBt0 hsz0 hbl0 hcB0 hJ0' hW0 hbel hJ0 hBl hv1 hv0 hv0k hcB hS hr hFr hnf
  subst hBt
  gi_loopw [10, 4] (fun i nn wr => ∃ (k : Nat) (xs : List TIt) (Ao Ai : Option Addr) (co ci : Nat) (s : S33), k ≤ evs.length ∧ i = .int .i64 k ∧ nn = .int .i64 (xs.length : Int) ∧ xs.length ≤ k ∧ tfold (evs.take k) = (xs.map (fun i => i.2.2.2), s) ∧ s.f0.length ≤ 1048576 ∧ s.f1.length ≤ 1048576 ∧ Inv b n₀ n₁ W.heap.size W1 J xs wr (.slice Ao s.f0.length co) (.slice Ai s.f1.length ci) ∧ (Kd.int .u8).R 5 W1 n₁ (fun _ => True) (.slice Ao s.f0.length co) s.f0 ∧ (Kd.int .u8).R 5 W1 n₁ (fun _ => True) (.slice Ai s.f1.length ci) s.f1)
    (fun i _ _ => evs.length - (intOf i).toNat)
  case atStart => exact ⟨0, [], none, none, 0, 0, ⟨[], []⟩, Nat.zero_le _, rfl, rfl, Nat.le_refl _, rfl, Nat.zero_le _, Nat.zero_le _, ⟨hJ1, hBt1, hfB1, hK1, hNF1, by omega⟩, Kd.R_nil _ _ _ _ _, Kd.R_nil _ _ _ _ _⟩
  case round =>
    obtain ⟨k, xs, Ao, Ai, co, ci, s, hk, rfl, rfl, hxk, hfold, hs0, hs1, hI, hRo, hRi⟩ := hrel
    by_cases hlt2 : k < evs.length
    · obtain ⟨ad, cells, rfl, hadb, hadc, hita⟩ := hat (by omega)
      have hkl : k < its.length := by omega
      have hek := hE k hkl hlt2
      have hit := (hita k its[k] (List.getElem?_eq_getElem hkl)).kpt hI.k hadb hadc
      have hrow := hrows its[k] (List.getElem_mem hkl)
      have hdl : its[k].1.f2.length ≤ 1048576 := by rw [hek]; exact hes _ (List.getElem_mem hlt2)
      have htk : tfold (evs.take (k + 1)) = tstep (xs.map (fun i => i.2.2.2), s) its[k].1 := by rw [List.take_succ_eq_append_getElem hlt2, tfold_snoc, hfold, hek]
      have hpre := turns_pre evs (k + 1)
      clear hita hek hat
      generalize its[k] = y at hit hrow hdl htk
      obtain ⟨hx0, hx1, hx2⟩ := hit
      have hIA := hI.alloc hJ (.cells #[.int .i64 y.1.f0, .int .i64 y.1.f1, .slice y.2.1 y.1.f2.length y.2.2] 37)
      obtain ⟨hct0, hct1, hfr0, hfr1⟩ := hIA.cells
      have hg0 : n₀ ≤ W.heap.size := hn₀
      have hg1 : W.heap.size < n₁ := by omega
      have hg2 : b ≠ W.heap.size := by omega
      by_cases hd : y.1.f0 = 1
      · have hd1 : (y.1.f0 == 1) = true := beq_iff_eq.mpr hd
        have Hd := Lib.hid hd
        have HT := Lib.hid htk
        clear hd htk
        have hIn := hIA.snd hJ hg0 hg1 hg2 (.slice y.2.1 y.1.f2.length y.2.2)
        gi_wp2
        go_roundw
        case rel => exact ⟨k + 1, xs, Ao, y.2.1, co, y.2.2, ⟨s.f0, y.1.f2⟩, by omega, by go_num, rfl, by omega, by rw [HT.out, tstep, if_pos Hd.out], hs0, hdl, hIn, hRo, hrow⟩
        case measure => simp [intOf]; omega
      · have hd1 : (y.1.f0 == 1) = false := beq_eq_false_iff_ne.mpr hd
        have Hd := Lib.hid hd
        have HT := Lib.hid htk
        clear hd htk
        by_cases hf : full s
        · have hpos : decide ((0 : Int) < (s.f0.length : Int) + (s.f1.length : Int)) = true := decide_eq_true (by unfold full at hf; omega)
          have Hf := Lib.hid hf
          clear hf
          have hpx : xs.map (fun i => i.2.2.2) ++ [s] <+: turns evs := by
            have := hpre
            rw [HT.out, tstep, if_neg Hd.out, if_pos Hf.out] at this
            exact this
          have hnx : NxT n₀ (turns evs) xs (xs.length, .slice Ao s.f0.length co, .slice Ai s.f1.length ci, s) (wr.alloc (.cells #[.int .i64 y.1.f0, .int .i64 y.1.f1, .slice y.2.1 y.1.f2.length y.2.2] 37)) := ⟨rfl, hpx, Kd.R_lower (hIA.k.row hRo) (by omega), Kd.R_lower (hIA.k.row hRi) (by omega)⟩
          obtain ⟨fn, tmps, assign, body, hy, hR⟩ := hY _ _ _ hIA.j hnx
          unfold TIt.enc at hy
          have hbE := World.alloc_heap_new wr (.cells #[.int .i64 y.1.f0, .int .i64 y.1.f1, .slice y.2.1 y.1.f2.length y.2.2] 37)
          have hfE : ¬ Free b (wr.alloc (.cells #[.int .i64 y.1.f0, .int .i64 y.1.f1, .slice y.2.1 y.1.f2.length y.2.2] 37)) wr.heap.size := mt (free_eq ((World.grownBy_alloc wr (.cells #[.int .i64 y.1.f0, .int .i64 y.1.f1, .slice y.2.1 y.1.f2.length y.2.2] 37) none).block b hI.bl (by intro h; cases h)) _).1 (hI.nf _ (Nat.le_refl _))
          gi_wp2
          refine hR.mono ?_
          rintro e W3 (⟨rfl, hJ3, hk3⟩ | ⟨rfl, hJx3⟩)
          · have hI3 := hIA.keep hJ3 hk3
            have hb3 := hk3.cells hbE rfl hfE
            have hb32 : W3.cell? ⟨wr.heap.size, 2, none⟩ = some (.slice y.2.1 y.1.f2.length y.2.2) := (blk_cell hb3 2).trans rfl
            obtain ⟨hct30, hct31, hfr30, hfr31⟩ := hI3.cells
            have hI1 := hI3.turned (W' := W3.setCell ⟨W.heap.size, 0, none⟩ (.slice y.2.1 y.1.f2.length y.2.2)) hJ hg0 hg1 hg2 (grownBy_set _ _ _ _) (by have := blk_set hI3.bt 0 (.slice y.2.1 y.1.f2.length y.2.2); simpa using this)
            obtain ⟨hdt0, hdt1, hdr0, hdr1⟩ := hI1.cells
            have hI2 := hI3.two hJ hg0 hg1 hg2 (.slice y.2.1 y.1.f2.length y.2.2) (.slice none 0 0)
            gi_wp2
            go_roundw
            case rel => exact ⟨k + 1, xs ++ [(xs.length, .slice Ao s.f0.length co, .slice Ai s.f1.length ci, s)], y.2.1, none, y.2.2, 0, ⟨y.1.f2, []⟩, by omega, by go_num, by rw [List.length_append, List.length_singleton]; go_num, by rw [List.length_append, List.length_singleton]; omega,
              by rw [HT.out, tstep, if_neg Hd.out, if_pos Hf.out, List.map_append]; rfl, hdl, Nat.zero_le _, hI2, hrow, Kd.R_nil _ _ _ _ _⟩
            case measure => simp [intOf]; omega
          · gi_wp2
            refine bodyPost_ret (results_none rfl _ _ _) rfl ?_
            exact ⟨⟨_, rfl⟩, .inr ⟨_, by rw [List.map_append]; exact hpx, hJx3⟩⟩
        · have hpos : decide ((0 : Int) < (s.f0.length : Int) + (s.f1.length : Int)) = false := decide_eq_false (by unfold full at hf; omega)
          have Hf := Lib.hid hf
          clear hf
          have hI1 := hIA.turned (W' := (wr.alloc (.cells #[.int .i64 y.1.f0, .int .i64 y.1.f1, .slice y.2.1 y.1.f2.length y.2.2] 37)).setCell ⟨W.heap.size, 0, none⟩ (.slice y.2.1 y.1.f2.length y.2.2)) hJ hg0 hg1 hg2 (grownBy_set _ _ _ _) (by have := blk_set hIA.bt 0 (.slice y.2.1 y.1.f2.length y.2.2); simpa using this)
          obtain ⟨hdt0, hdt1, hdr0, hdr1⟩ := hI1.cells
          have hI2 := hIA.two hJ hg0 hg1 hg2 (.slice y.2.1 y.1.f2.length y.2.2) (.slice none 0 0)
          gi_wp2
          go_roundw
          case rel => exact ⟨k + 1, xs, y.2.1, none, y.2.2, 0, ⟨y.1.f2, []⟩, by omega, by go_num, rfl, by omega, by rw [HT.out, tstep, if_neg Hd.out, if_neg Hf.out], hdl, Nat.zero_le _, hI2, hrow, Kd.R_nil _ _ _ _ _⟩
          case measure => simp [intOf]; omega
    · obtain rfl : k = evs.length := by omega
      rw [List.take_length] at hfold
      obtain ⟨hct0, hct1, hfr0, hfr1⟩ := hI.cells
      by_cases hf : full s
      · have hpos : decide ((0 : Int) < (s.f0.length : Int) + (s.f1.length : Int)) = true := decide_eq_true (by unfold full at hf; omega)
        have HTn := Lib.hid (show turns evs = xs.map (fun i => i.2.2.2) ++ [s] by unfold turns; rw [hfold, if_pos hf])
        clear hf
        have hnx : NxT n₀ (turns evs) xs (xs.length, .slice Ao s.f0.length co, .slice Ai s.f1.length ci, s) wr := ⟨rfl, by rw [HTn.out]; exact List.prefix_refl _, Kd.R_lower (hI.k.row hRo) (by omega), Kd.R_lower (hI.k.row hRi) (by omega)⟩
        obtain ⟨fn, tmps, assign, body, hy, hR⟩ := hY _ _ _ hI.j hnx
        unfold TIt.enc at hy
        gi_wp2
        refine hR.mono ?_
        rintro e W3 (⟨rfl, hJ3, hk3⟩ | ⟨rfl, hJx3⟩)
        · gi_wp2
          go_end0
          exact ⟨⟨_, rfl⟩, .inl ⟨_, by rw [HTn.out, List.map_append]; rfl, hJ3⟩⟩
        · gi_wp2
          go_end0
          exact ⟨⟨_, rfl⟩, .inr ⟨_, by rw [HTn.out, List.map_append]; exact List.prefix_refl _, hJx3⟩⟩
      · have hpos : decide ((0 : Int) < (s.f0.length : Int) + (s.f1.length : Int)) = false := decide_eq_false (by unfold full at hf; omega)
        have HTn := Lib.hid (show turns evs = xs.map (fun i => i.2.2.2) by unfold turns; rw [hfold, if_neg hf])
        clear hf
        gi_wp2
        go_end0
        exact ⟨⟨_, rfl⟩, .inl ⟨_, HTn.out.symm, hI.j⟩⟩
end Go.Proofs.Ytjcaflhlilckgaa.QA
