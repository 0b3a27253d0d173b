import Derived.RangeFuncNested
import Derived.RangeFuncBound
import Derived.RangeFuncCalls
import Derived.RangeFuncLeaves
import Derived.Shelf.Abstract
import Derived.Shelf.RegionOpen
import Derived.WalkKit
import Derived.OwnWalkIn
import Derived.TacticsInMore
import Derived.LoopNIn
import Derived.LoopIn
import Derived.Maps.AppendAt
import Derived.StillTailTactics
import Derived.Lib.Hide
import Derived.Outline
import Derived.Deep.RegionWith
import Derived.Deep.RegionLaw
import Derived.Deep.AppendLies
import Derived.Test.YtjcaflhlilckgaaGAll1
import Derived.Test.YtjcaflhlilckgaaGLaw
import Derived.CallsIn
namespace Go.Proofs.Ytjcaflhlilckgaa.QA
open Go.RowKit Go.Shelf Go.Proofs.YtjcaflhlilckgaaW.PrintWords Go.Proofs.YtjcaflhlilckgaaW.PrintLast Go.Proofs.YtjcaflhlilckgaaW.PrintMore
attribute [local go_sem] Oper.semAt_some
set_option linter.unusedVariables false
set_option linter.unusedSimpArgs false
/-! ### turn.Of -/
theorem heap37 : Kd.Heap k37 := Kd.heap_iso _ (Kd.heap_pair (Kd.heap_int _) (Kd.heap_pair (Kd.heap_int _) (Kd.heap_slice _ (Kd.heap_int _))))
/-- a variable's box, behind an append of a row and the store back -/
theorem box_appended_row {W w1 : World} {n₀ B : Nat} {t e : TypeId} {size : Nat} {v v' : Value} {k m : Nat} {xs ys : List Value}
    (hv : Boxed W B t v) (hte : t ≠ e) (hrow : W.ownsRow n₀ e size v k xs) (hn₀ : n₀ ≤ W.heap.size) (hB : n₀ ≤ B)
    (hown' : w1.ownsRow n₀ e size v' m ys) (hgrow : W.grownBy w1 v.ownBlock) :
    Boxed w1 B t v ∧ Boxed (w1.setCell ⟨B, 0, none⟩ v') B t v' ∧ (w1.setCell ⟨B, 0, none⟩ v').ownsRow n₀ e size v' m ys ∧ KeepsOthers W (w1.setCell ⟨B, 0, none⟩ v') ∧ Below n₀ W (w1.setCell ⟨B, 0, none⟩ v') := by
  have hv1 : Boxed w1 B t v := hv.kept hgrow (hv.not_row hte hrow)
  refine ⟨hv1, hv1.set v', hown'.kept (grownBy_setCell' w1 B v') (.inr (hv1.not_row hte hown').symm), ?_, ?_⟩
  · refine (KeepsOthers.of_grownBy hgrow fun j o ej hj => ?_).trans (KeepsOthers.setCell _ _ _)
    rcases hrow.2 with ⟨rfl, _⟩ | ⟨g, cap, cur, rfl, _, hgb, _⟩
    · simp [Value.ownBlock] at ej
    · obtain rfl : g = j := by simpa [Value.ownBlock] using ej
      rw [hgb] at hj; cases hj; rfl
  · exact ((Below.refl n₀ W).grown hgrow hn₀ (own_base hrow)).setCell (p := ⟨B, 0, none⟩) hB v'
/-- the box of a loop's turn -/
def BoxT (W : World) (B : Nat) (x : TIt) : Prop := W.heap[B]? = some (.cells #[x.2.1, x.2.2.1] 33 (0, 0))
/-- another variable of a turn was written -/
theorem r33_other {W W' : World} {base r : Nat} {v : Value} {ts : List S33} (h : Kd.R k33 33 W base (fun _ => True) v ts) (hg : W.grownBy W' (some r)) {cells : Array Value} (hc : W.heap[r]? = some (.cells cells 33 (0, 0))) (hne : v.ownBlock ≠ some r) : Kd.R k33 33 W' base (fun _ => True) v ts := by
  obtain ⟨_, inner, ho, hr⟩ := h
  refine ⟨fun _ _ => trivial, inner, ho.kept hg (.inr hne), hr.imp_ (fun x c hp => ?_)⟩
  refine k33.M_mono (fun k hk => hk.1) (k33.M_move (w1 := W') (fun k hk => ?_) (k33.M_bound hp))
  obtain ⟨_, _, hlt, q, hq, cells', hc'⟩ := hk
  refine hg.block k hlt (fun e => ?_)
  injection e with e
  subst e
  rw [hc] at hc'
  injection hc' with hc'
  injection hc' with _ hc'
  subst hc'
  revert hq
  decide
theorem r33_noncell {W W' : World} {base : Nat} {row : Option Nat} {v : Value} {ts : List S33} (h : Kd.R k33 33 W base (fun _ => True) v ts) (hg : W.grownBy W' row) (hr : ∀ k, row = some k → ∃ o, W.heap[k]? = some o ∧ o.isCells = false) : Kd.R k33 33 W' base (fun _ => True) v ts :=
  Kd.R_mono (Kd.R_move (Kd.R_bound h) (fun k hk => by
    obtain ⟨_, _, hlt, q, _, cells, hc⟩ := hk
    refine hg.block k hlt (fun e => ?_)
    obtain ⟨o, ho, hoc⟩ := hr k e.symm
    rw [hc] at ho
    cases ho
    cases hoc)) (fun _ _ => trivial)
/-- what the loop of turn.Of keeps -/
def IOf (base b : Nat) (w : World) (pre : List TIt) (W : World) : Prop := ∃ v, Boxed W b 24 v ∧ Kd.R k33 33 W base (fun _ => True) v (pre.map fun i => i.2.2.2) ∧ Below base w W
theorem iOf_own {base b n₀ : Nat} {w : World} (hb : base ≤ n₀) (hw : base ≤ w.heap.size) : OwnFrom n₀ (IOf base b w) := by
  rintro s X Y row ⟨v, hv, hR, hB⟩ hg hrow
  refine ⟨v, hv.kept hg (fun e => ?_), r33_noncell hR hg (fun k e => (hrow k e).2), hB.grown hg (Nat.le_trans hw hB.size) (fun k e => Nat.le_trans hb (hrow k e).1)⟩
  obtain ⟨_, o, ho, hc⟩ := hrow b e.symm
  rw [show X.heap[b]? = _ from hv] at ho
  cases ho
  cases hc
theorem iOf_c {base b n₀ : Nat} {w : World} (hb : base ≤ n₀) (hw : base ≤ w.heap.size) : AbC (CT n₀ b) (IOf base b w) := by
  rintro s X Y row ⟨v, hv, hR, hB⟩ hg hrow
  cases row with
  | none => exact ⟨v, hv.kept hg (by intro e; cases e), r33_noncell hR hg (fun k e => by cases e), hB.grown hg (Nat.le_trans hw hB.size) (fun k e => by cases e)⟩
  | some r =>
    obtain ⟨⟨h0, hf, cells, hc⟩, _⟩ := hrow r rfl
    have hne : b ≠ r := fun e => hf (.inl e.symm)
    have hne2 : v.ownBlock ≠ some r := fun e => hf (.inr ⟨v, hv.cell, e⟩)
    exact ⟨v, hv.kept hg (by intro e; injection e with e; exact hne e), r33_other hR hg hc hne2, hB.grown hg (Nat.le_trans hw hB.size) (fun k e => by injection e with e; omega)⟩
/-- an append of an element to a row of one's own, in a round -/
theorem in_append_R {F : Fence} {n : Nat} {P : Program} {W : World} {ops : Array Oper} {rest : List Oper} {o : Oper} {a : Act} {Q : Exit → Act → World → Prop} {α : Type} (d : Kd α)
    (base : Nat) (hg : o.guard = none) (s x : Operand) (t e : TypeId) (z : Value) (bytes : Nat)
    (hop : o.op = Op.call { callee := Callee.builtin Builtin.append, args := #[s, x], argTypes := #[t, t] })
    (ht : P.underlying t = some (.slice e)) (hinfo : (P.info? e).map (fun i => (i.zero, i.size, i.bytes)) = some (some z, d.sz, bytes)) (hzs : z.cells.size = d.sz) (hs0 : 0 < d.sz) (hb0 : 0 < bytes)
    (v : Value) (xs : List α) (p : α) (cs : List Value) (ad : Addr) (c : Nat) (hs : a.eval s = v) (hx : a.eval x = .slice (some ad) 1 c)
    (HO : d.R e W base (fun _ => True) v xs) (hp : d.M W base (fun k => True ∧ some k ≠ v.ownBlock) p cs) (hnews : ∀ j u, cs[j]? = some u → W.cell? (ad.add j) = some u) (hbase : base ≤ W.heap.size) (hlen : (xs.length + 1) * bytes ≤ 140737488355328)
    (h : ∀ v1 w1, d.R e w1 base (fun _ => True) v1 (xs ++ [p]) → W.grownBy w1 v.ownBlock → (∃ A1 c1, v1 = .slice A1 (xs.length + 1) c1) → (v1.ownBlock = v.ownBlock ∨ ∃ b, v1.ownBlock = some b ∧ W.heap.size ≤ b) → wpListIn F n P ops Q rest (a.put o.dst v1) w1) :
    wpListIn F n P ops Q (o :: rest) a W := by
  obtain ⟨i0, hi, hzz⟩ := Option.map_eq_some_iff.1 hinfo
  simp only [Prod.mk.injEq] at hzz
  obtain ⟨hz0, hz1, hz2⟩ := hzz
  have hkm : xs.length + 1 ≤ 140737488355328 := Nat.le_trans (Nat.le_mul_of_pos_right _ hb0) hlen
  obtain ⟨h0, inner, hown, hr⟩ := HO
  have hcl := d.K_len (d.K_of_M hp)
  refine wpListIn_plain hg fun K hK' => ?_
  obtain ⟨v1, w1, hrun, h2, h3, _, h5⟩ := run_append_own_at (P := P) (w := W) base t o.type e i0 z d.sz bytes ht hi hz0 hz1 hz2 hzs hs0 v xs.length inner hown ad 1 c cs (by rw [hcl, Nat.one_mul]) hnews (d.K_one (d.K_of_M hp)) (by simp only [maxLen]; omega) hlen hbase
  have hat : v1.ownBlock = v.ownBlock ∨ ∃ b, v1.ownBlock = some b ∧ W.heap.size ≤ b := h5.imp id (fun e => ⟨_, e, Nat.le_refl _⟩)
  have hR1 : d.R e w1 base (fun _ => True) v1 (xs ++ [p]) := Kd.R_appended h0 hr hp (fun k hk => hk) (fun _ _ => trivial) h2 h3 hat
  unfold Oper.wpIn
  refine ⟨?_, ?_⟩
  · simp [Oper.about, hop, resolve, Target.leads, Sem.run_pure]
  · rw [Oper.semAt_plain F _ _ (by rw [hop]; intro c hc'; cases hc')]
    simp [execOp, hop, resolve, invoke, builtin, hs, hx, hrun, Result.andThen]
    exact hK' _ _ (h v1 w1 hR1 h3 (own_slice h2) hat)
theorem keep_append {b : Nat} {W w1 : World} {v v1 : Value} {lit : Obj} {t : TypeId} (hv : Boxed W b t v) (hb : v.ownBlock ≠ some b) (hg : (W.alloc lit).grownBy w1 v.ownBlock) (hat : v1.ownBlock = v.ownBlock ∨ ∃ k, v1.ownBlock = some k ∧ (W.alloc lit).heap.size ≤ k)
    (hv2 : Boxed (w1.setCell ⟨b, 0, none⟩ v1) b t v1) (hlt : ∀ k, v1.ownBlock = some k → k < w1.heap.size) : Keep b W (w1.setCell ⟨b, 0, none⟩ v1) := by
  have hsz : (w1.setCell ⟨b, 0, none⟩ v1).heap.size = w1.heap.size := by simp [World.setCell]
  have hsA : (W.alloc lit).heap.size = W.heap.size + 1 := by simp
  have hF : ∀ k, Free b W k ↔ k = b ∨ v.ownBlock = some k := fun k => by
    unfold Free
    rw [hv.cell]
    simp
  have hF2 : ∀ k, Free b (w1.setCell ⟨b, 0, none⟩ v1) k ↔ k = b ∨ v1.ownBlock = some k := fun k => by
    unfold Free
    rw [hv2.cell]
    simp
  have h1 := hg.size
  refine ⟨by omega, fun k o hk _ hf => ?_, fun k hk hf => ?_, fun hn k hk => ?_⟩
  · rw [hF] at hf
    have hkl := (Array.getElem?_eq_some_iff.1 hk).1
    rw [Below.heap_setCell w1 ⟨b, 0, none⟩ v1 k (fun e => hf (.inl e)), hg.block k (by omega) (fun e => hf (.inr e.symm)), Below.heap_alloc W lit k hkl]
    exact hk
  · rw [hF] at hf
    rw [hF2]
    rintro (h | h)
    · exact hf (.inl h)
    · rcases hat with h2 | ⟨m, h2, h3⟩
      · exact hf (.inr (h2 ▸ h))
      · rw [h2] at h; injection h with h; omega
  · rw [hF2]
    rintro (h | h)
    · have := hv2.lt; omega
    · have := hlt k h; omega
theorem keep_alloc {b : Nat} {W : World} (hb : b < W.heap.size) (o : Obj) : Keep b W (W.alloc o) := by
  have hg : W.grownBy (W.alloc o) none := World.grownBy_alloc _ _ _
  have hf := free_eq (hg.block b hb (by intro e; cases e))
  exact ⟨hg.size, fun k o' hk _ _ => (hg.block k (Array.getElem?_eq_some_iff.1 hk).1 (by intro e; cases e)).trans hk, fun k _ h h2 => h ((hf k).1 h2), fun hn => NF.grown hn hg hb (by intro e; cases e)⟩
theorem r33_set {W : World} {base b : Nat} {v v' : Value} {ts : List S33} (h : Kd.R k33 33 W base (fun _ => True) v ts) (hb : Boxed W b 24 v') (u : Value) : Kd.R k33 33 (W.setCell ⟨b, 0, none⟩ u) base (fun _ => True) v ts :=
  Kd.R_set h hb (by decide) 0 u
set_option maxRecDepth 100000 in
set_option maxHeartbeats 2000000 in
theorem of_in (K : Nat) (n : Nat) (hn : 3 ≤ n) (A : Option Addr) (cap : Nat) (w : World) (ls evs : List S37) (hls : ls.length ≤ 1048576) (hev : evs.length ≤ 1048576) (hes : ∀ e ∈ evs, e.f2.length ≤ 1048576) (hr : turn_right.f K ls = some evs)
    (hv1 : Kd.V k37 37 w w.heap.size (fun _ => True) (.slice A ls.length cap) ls) :
    CallsIn Fence.wide n Try.prog 12 #[.slice A ls.length cap] w fun e W' => ∃ v, e = .returned v ∧ Kd.R k33 33 W' w.heap.size (fun _ => True) v (turns evs) ∧ Below w.heap.size w W' := by
  have h1 : 1 ≤ n := by omega
  have htl : (turns evs).length ≤ evs.length + 1 := by
    have key : ∀ (l : List S37) (s : List S33 × S33), (l.foldl tstep s).1.length ≤ s.1.length + l.length := by
      intro l
      induction l with
      | nil => intro s; simp
      | cons e r ih =>
        intro s
        have := ih (tstep s e)
        have h2 : (tstep s e).1.length ≤ s.1.length + 1 := by
          unfold tstep
          split
          · simp
          · split
            · simp
            · simp
        simp only [List.foldl_cons, List.length_cons]
        omega
    have := key evs ([], ⟨[], []⟩)
    unfold turns
    split
    · simp only [List.length_append, List.length_singleton]
      unfold tfold
      simp at this
      omega
    · unfold tfold
      simp at this
      omega
  have h13 : Fence.wide.fn 13 := trivial
  refine callsIn_of_wp_marks Try.func12 rfl trivial ?_ rfl
  simp only [Try.ntmps12, List.size_toArray, List.length_cons, List.length_nil, Nat.reduceAdd, Nat.reduceSub, Array.replicate_succ, Array.replicate_zero, List.push_toArray, List.append_toArray, List.nil_append, List.cons_append]
  gi_wp2_with (gi_at_call 13; refine (all_in Fence.wide (n - 1) trivial rfl _ _ _ _).mono ?_; rintro e w' ⟨rfl, rfl⟩)
  have bO := Boxed.new w 24 (.slice none 0 0)
  have bL := Boxed.new (w.alloc (.cells #[.slice none 0 0] 24)) 22 (.slice A ls.length cap)
  rw [World.size_alloc] at bL
  replace bO := bO.alloc (.cells #[.slice A ls.length cap] 22)
  have hB0 : Below w.heap.size w ((w.alloc (.cells #[.slice none 0 0] 24)).alloc (.cells #[.slice A ls.length cap] 22)) := ((Below.refl _ w).alloc (Nat.le_refl _) _).alloc (by simp) _
  have hsz : ((w.alloc (.cells #[.slice none 0 0] 24)).alloc (.cells #[.slice A ls.length cap] 22)).heap.size = w.heap.size + 2 := by simp
  generalize (w.alloc (.cells #[.slice none 0 0] 24)).alloc (.cells #[.slice A ls.length cap] 22) = W0 at *
  have hseq : SeqC Fence.wide (n - 1) Try.prog 23 #[.pointer (some ⟨w.heap.size + 1, 0, none⟩)] TIt.enc (CT W0.heap.size w.heap.size) (Keep w.heap.size) (NxT W0.heap.size (turns evs)) (fun xs => xs.map (fun i => i.2.2.2) = turns evs) (fun pre => pre.map (fun i => i.2.2.2) <+: turns evs) W0 := fun l J Jx W hW hJ hJx hY h0 =>
    all1_in K w.heap.size W0.heap.size (n - 1) (by omega) l (w.heap.size + 1) A cap ls evs hls hev hes hr J Jx (by omega) W hW.size hY hJ hJx ((hW.block _ bL.lt).trans bL) (Kd.V_below (Kd.V_below hv1 hB0) hW) ⟨24, _, (hW.block _ bO.lt).trans bO, fun k h => by cases h⟩ h0
  refine range_c rfl h1 (gf := 23) (lb := #[.pointer (some ⟨w.heap.size + 1, 0, none⟩)]) rfl trivial (enters_of Try.func23 (by kernel_rfl) rfl) hseq Keep.trans (fun W l o o' hl h h1 h2 => keep_putObj (n₀ := W0.heap.size) (by omega) W l o o' hl h h1 h2) (fun pre x W l o o' _ h h1 _ hx => nxT_putObj pre x W l o o' h h1 hx) (fun _ => rfl)
    (IOf w.heap.size w.heap.size w) (fun _ _ => False) (iOf_own (by omega) (Nat.le_refl _)) (fun _ _ _ _ h _ _ => h) (iOf_c (by omega) (Nat.le_refl _)) (fun _ _ _ _ h _ _ => h) ⟨_, bO, Kd.R_nil _ _ _ _ _, hB0⟩
    (fun x a' W => ∃ Bx, BoxT W Bx x ∧ a' = { tmps := #[.slice A ls.length cap, undef, .slice none 0 0, .pointer (some ⟨w.heap.size, 0, none⟩), undef, .pointer (some ⟨Bx, 0, none⟩), .slice A ls.length cap, .func (.func 23) #[] #[.pointer (some ⟨w.heap.size + 1, 0, none⟩)], .int .i64 x.1, .agg #[x.2.1, x.2.2.1], undef, undef, undef, undef, undef], defers := [] })
    (fun x a' W l o o' _ h h1 _ => by
      rintro ⟨Bx, hb, e⟩
      refine ⟨Bx, (World.putObj_heap_other ?_).trans hb, e⟩
      rintro rfl
      rw [show W.heap[Bx]? = _ from hb] at h
      cases h
      cases h1) ?assign ?body ?done ?stop
  case assign =>
    rintro l pre ⟨ix, vo, vi, s⟩ W K hI ⟨hix, hpx, hRo, hRi⟩ hK
    obtain rfl : ix = pre.length := hix
    replace hRo : (Kd.int .u8).R 5 W W0.heap.size (fun _ => True) vo s.f0 := hRo
    replace hRi : (Kd.int .u8).R 5 W W0.heap.size (fun _ => True) vi s.f1 := hRi
    obtain ⟨Ao, co, rfl⟩ := Kd.R_slice hRo
    obtain ⟨Ai, ci, rfl⟩ := Kd.R_slice hRi
    obtain ⟨v, hv, hR, hB⟩ := hI
    unfold TIt.enc
    gi_wp2
    refine hK _ _ ((KeepsOthers.alloc _ _).from _) (keep_alloc hv.lt _) ⟨v, hv.alloc _, Kd.R_alloc hR _, hB.alloc hB.size _⟩ ⟨rfl, hpx, Kd.R_alloc hRo _, Kd.R_alloc hRi _⟩ ⟨W.heap.size, World.alloc_heap_new W _, rfl⟩
  case body =>
    rintro l pre ⟨ix, vo, vi, s⟩ a' W ⟨v, hv, hR, hB⟩ ⟨hix, hpx, hRo, hRi⟩ ⟨Bx, bX, rfl⟩
    obtain rfl : ix = pre.length := hix
    replace hRo : (Kd.int .u8).R 5 W W0.heap.size (fun _ => True) vo s.f0 := hRo
    replace hRi : (Kd.int .u8).R 5 W W0.heap.size (fun _ => True) vi s.f1 := hRi
    have hlen : (pre.map fun i => i.2.2.2).length + 1 ≤ 1048577 := by
      have := hpx.length_le
      simp only [List.length_append, List.length_singleton] at this
      omega
    obtain ⟨Ao, co, rfl⟩ := Kd.R_slice hRo
    obtain ⟨Ai, ci, rfl⟩ := Kd.R_slice hRi
    obtain ⟨Av, cv, hve⟩ := Kd.R_slice hR
    rw [List.length_map] at hve
    subst hve
    have hc := hv.cell
    have hx0 : W.cell? ⟨Bx, 0, none⟩ = some (.slice Ao s.f0.length co) := (blk_cell bX 0).trans rfl
    have hx1 : W.cell? ⟨Bx, 1, none⟩ = some (.slice Ai s.f1.length ci) := (blk_cell bX 1).trans rfl
    have hv0 := hv.alloc (.cells #[.slice Ao s.f0.length co, .slice Ai s.f1.length ci] 33)
    have hR0 := Kd.R_alloc hR (.cells #[.slice Ao s.f0.length co, .slice Ai s.f1.length ci] 33)
    have hB1 := hB.alloc hB.size (.cells #[.slice Ao s.f0.length co, .slice Ai s.f1.length ci] 33)
    have hRo0 := Kd.R_lower (base' := w.heap.size) (Kd.R_alloc hRo (.cells #[.slice Ao s.f0.length co, .slice Ai s.f1.length ci] 33)) (by omega)
    have hRi0 := Kd.R_lower (base' := w.heap.size) (Kd.R_alloc hRi (.cells #[.slice Ao s.f0.length co, .slice Ai s.f1.length ci] 33)) (by omega)
    have hM := k33_mkM _ _ _ s (Kd.R_apart' hRo0 (Kd.R_typed hR0) (by decide)) (Kd.R_apart' hRi0 (Kd.R_typed hR0) (by decide))
    have hn3 : ∀ j u, ([.slice Ao s.f0.length co, .slice Ai s.f1.length ci] : List Value)[j]? = some u → (W.alloc (.cells #[.slice Ao s.f0.length co, .slice Ai s.f1.length ci] 33)).cell? ((⟨W.heap.size, 0, none⟩ : Addr).add j) = some u := fun j u hu => by
      rw [add_plain]
      exact (blk_cell (World.alloc_heap_new W _) j).trans (by simpa using hu)
    have HN := Lib.hid hn3
    have HM := Lib.hid hM
    have HR := Lib.hid hR0
    have hbn : (Value.slice Av pre.length cv).ownBlock ≠ some w.heap.size := (hv.not_row (by decide) (Kd.R_own hR).choose_spec).symm
    clear hn3 hM hR0 hRo hRi hRo0 hRi0
    gi_wp2_with (gi_at_builtin; refine in_append_R k33 w.heap.size rfl _ _ 24 33 (.agg #[.slice none 0 0, .slice none 0 0]) 48 rfl Try.underlying24 info33 rfl (by decide) (by decide) (.slice Av pre.length cv) (pre.map fun i => i.2.2.2) s [.slice Ao s.f0.length co, .slice Ai s.f1.length ci] ⟨W.heap.size, 0, none⟩ 1 rfl rfl HR.out HM.out HN.out hB1.size (by omega) ?_; rintro v1 w1 hR1 hgrow ⟨A1, c1, hve⟩ hat; rw [List.length_map] at hve; subst hve; obtain ⟨hv1, hv2, _, hk2, hb2⟩ := box_appended_row hv0 (by decide) (Kd.R_own HR.out).choose_spec hB1.size (Nat.le_refl _) (Kd.R_own hR1).choose_spec hgrow; have hc1 := hv1.cell; have hf1 := hv1.frozen)
    have hkA : KeepsOthers W (W.alloc (.cells #[.slice Ao s.f0.length co, .slice Ai s.f1.length ci] 33)) := KeepsOthers.alloc _ _
    have hKp := keep_append hv hbn hgrow hat hv2 (Kd.R_lt hR1)
    have hRf := r33_set hR1 hv1 (.slice A1 (pre.length + 1) c1)
    refine ⟨(hkA.trans hk2).from _, hKp, ⟨_, hv2, ?_, hB1.trans hb2⟩⟩
    rw [List.map_append]
    exact hRf
  case done =>
    rintro D xs W hD hS ⟨v, hv, hR, hB⟩ hK
    have hc := hv.cell
    gi_wp2
    refine ⟨by simp, .inl ⟨_, _, rfl, run_takeDeferred hK, ?_⟩⟩
    refine ⟨_, results_tmp rfl _ _ _, v, rfl, ?_, hB.trans (belowK_b (w := w) (Nat.le_refl _) W D _ _ (by omega) hK rfl rfl)⟩
    rw [← hS]
    exact r33_noncell hR (grownBy_putObj' W D _) (fun k e => by cases e; exact ⟨_, hK, rfl⟩)
  case stop =>
    rintro D pre W _ _ h _
    exact h.elim
/-- the turns of events; none where there are too many -/
def turn_Of.f (k : Nat) (l : List S37) : Option (List S33) := (turn_right.f k l).bind fun evs => if l.length ≤ 1048576 ∧ evs.length ≤ 1048576 ∧ ∀ e ∈ evs, e.f2.length ≤ 1048576 then some (turns evs) else none
theorem turn_Of.mono : ∀ a0 k, LeO (turn_Of.f k a0) (turn_Of.f (k + 1) a0) := fun a0 k => LeO.bind (turn_right.mono a0 k) (fun _ => LeO.refl _)
theorem turn_Of.callsR (k : Nat) (A0 : Option Addr) (c0 : Nat) (l0 : List (S37)) (r : List (S33)) (w : World) (hr0 : Kd.C k37 w A0 l0.length l0) (hc0 : l0.length ≤ c0) (h : turn_Of.f k l0 = some r) :
    Calls Try.prog 12 #[.slice A0 l0.length c0] w fun e w' => ∃ v0_ : Value, e = .returned (v0_) ∧ Kd.R k33 33 w' w.heap.size (fun _ => True) v0_ r ∧ Below w.heap.size w w' := by
  unfold turn_Of.f at h
  obtain ⟨evs, he, h⟩ := Option.bind_eq_some_iff.1 h
  by_cases hc : l0.length ≤ 1048576 ∧ evs.length ≤ 1048576 ∧ ∀ e ∈ evs, e.f2.length ≤ 1048576
  · rw [if_pos hc] at h
    obtain rfl := Option.some.inj h
    exact (callsIn_wide (n := 3)).1 (of_in k 3 (by omega) A0 c0 w l0 evs hc.1 hc.2.1 hc.2.2 he (Kd.V_mk hc0 (fun _ hW => heap37.C (fun k hlt => hW k trivial hlt) hr0)))
  · rw [if_neg hc] at h
    cases h
theorem turn_Of.calls (k : Nat) (P0_ : Nat → Prop) (A0 : Option Addr) (c0 : Nat) (l0 : List (S37)) (r : List (S33)) (w : World) (hs0 : Kd.V k37 37 w w.heap.size (fun k_ => P0_ k_) (.slice A0 l0.length c0) l0) (h : turn_Of.f k l0 = some r) :
    Calls Try.prog 12 #[.slice A0 l0.length c0] w fun e w' => ∃ v0_ : Value, e = .returned (v0_) ∧ Kd.N k33 33 w' w.heap.size (fun k_ => (P0_ k_ ∨ w.heap.size ≤ k_)) v0_ r ∧ Below w.heap.size w w' := by
  obtain ⟨_, hc, hC⟩ := Kd.V_reads' hs0
  refine (turn_Of.callsR k A0 c0 l0 r w hC hc h).mono ?_
  rintro e w' ⟨v, he, hR, hB⟩
  exact ⟨v, he, Kd.N_mono (Kd.R_N (Kd.R_bound hR)) (fun k_ hk => .inr hk.2.1), hB⟩
end Go.Proofs.Ytjcaflhlilckgaa.QA
