import Derived.Test.YtdbnmccflbkcoaaGBytes
import Derived.Lib.Hide
namespace Go.Proofs.Ytdbnmccflbkcoaa.QA
open Go.RowKit Go.Shelf Go.Proofs.YtdbnmccflbkcoaaW.PrintWords Go.Proofs.YtdbnmccflbkcoaaW.PrintLast Go.Proofs.YtdbnmccflbkcoaaW.PrintMore
attribute [local go_sem] Oper.semAt_some
set_option linter.unusedVariables false
set_option linter.unusedSimpArgs false
/-! ### append(v, lit...), v a row of the call's own of several cells an element -/
theorem in_append_cells {F : Fence} {n : Nat} {P : Program} {W : World} {ops : Array Oper} {rest : List Oper} {o : Oper} {a : Act} {Q : Exit → Act → World → Prop}
    (base : Nat) (hg : o.guard = none) (s x : Operand) (t e : TypeId) (z : Value) (size bytes : Nat)
    (hop : o.op = Op.call { callee := Callee.builtin Builtin.append, args := #[s, x], argTypes := #[t, t] })
    (ht : P.underlying t = some (.slice e)) (hinfo : (P.info? e).map (fun i => (i.zero, i.size, i.bytes)) = some (some z, size, bytes)) (hzs : z.cells.size = size) (hs0 : 0 < size) (hb0 : 0 < bytes)
    (v : Value) (k : Nat) (xs : List Value) (ad : Addr) (m c : Nat) (news : List Value) (hs : a.eval s = v) (hx : a.eval x = .slice (some ad) m c)
    (HO : W.ownsRow base e size v k xs) (hl : news.length = m * size) (hnews : ∀ j u, news[j]? = some u → W.cell? (ad.add j) = some u) (h1 : ∀ u ∈ news, u.oneCell' = true) (hbase : base ≤ W.heap.size) (hlen : (k + m) * bytes ≤ 140737488355328)
    (h : ∀ v1 w1, w1.ownsRow base e size v1 (k + m) (xs ++ news) → W.grownBy w1 v.ownBlock → (∃ A1 c1, v1 = .slice A1 (k + m) c1) → wpListIn F n P ops Q rest (a.put o.dst v1) w1) :
    wpListIn F n P ops Q (o :: rest) a W := by
  obtain ⟨i0, hi, hzz⟩ := Option.map_eq_some_iff.1 hinfo
  simp only [Prod.mk.injEq] at hzz
  obtain ⟨hz0, hz1, hz2⟩ := hzz
  have hkm : k + m ≤ 140737488355328 := Nat.le_trans (Nat.le_mul_of_pos_right _ hb0) hlen
  refine wpListIn_plain hg fun K hK' => ?_
  obtain ⟨v1, w1, hrun, h2, h3, _⟩ := run_append_own (P := P) W base t o.type e i0 z size bytes ht hi hz0 hz1 hz2 hzs hs0 v k xs HO ad m c news hl hnews h1 (by simp only [maxLen]; omega) hlen hbase
  unfold Oper.wpIn
  refine ⟨?_, ?_⟩
  · simp [Oper.about, hop, resolve, Target.leads, Sem.run_pure]
  · rw [Oper.semAt_plain F _ _ (by rw [hop]; intro c hc'; cases hc')]
    simp [execOp, hop, resolve, invoke, builtin, hs, hx, hrun, Result.andThen]
    exact hK' _ _ (h v1 w1 h2 h3 (own_slice h2))
/-! ### cuecardlaw04.of: what it hands back leads to what came in -/
/-- an event whose bytes are read, and where they lie -/
abbrev Shd (w : World) (P : Nat → Prop) : Type := { i : Itm // i.1.f2.length ≤ i.2.2 ∧ Kd.F (Kd.int .u8) w P i.2.1 i.1.f2.length i.1.f2 }
def cells3 (i : Itm) : List Value := [.int .i64 i.1.f0, .int .i64 i.1.f1, .slice i.2.1 i.1.f2.length i.2.2]
def cellsOf {w : World} {P : Nat → Prop} (its : List (Shd w P)) : List Value := its.flatMap fun i => cells3 i.1
theorem cellsOf_snoc {w : World} {P : Nat → Prop} (its : List (Shd w P)) (x : Shd w P) : cellsOf (its ++ [x]) = cellsOf its ++ cells3 x.1 := by simp [cellsOf]
theorem items_shd {w : World} {P : Nat → Prop} {A : Option Addr} {l : List S32} (h : Kd.F k32 w P A l.length l) : ∃ its : List (Shd w P), its.map (fun i => i.1.1) = l ∧ (0 < l.length → ∃ ad, A = some ad ∧ ∀ j i, its[j]? = some i → ItmAt w ad j i.1) := by
  rcases Nat.eq_zero_or_pos l.length with h0 | h0
  · obtain rfl : l = [] := List.eq_nil_of_length_eq_zero h0
    exact ⟨[], rfl, fun h => absurd h (by simp)⟩
  · obtain ⟨ad, rfl, _⟩ := (Kd.F_now h).2.2 h0
    obtain ⟨ys, e, hq⟩ := choose_list l (fun j (x : S32) (y : Option Addr × Nat) => ItmAt w ad j (x, y) ∧ (x.f2.length ≤ y.2 ∧ Kd.F (Kd.int .u8) w P y.1 x.f2.length x.f2)) (fun j p hp => by
      obtain ⟨hj, hpe⟩ := List.getElem?_eq_some_iff.1 hp
      obtain ⟨ad', c, he, hcl, hF, hcell, _⟩ := Kd.F_get h p (j : Int) (by omega) (by omega)
      injection he with he
      subst he
      simp only [Int.toNat_natCast] at hF hcell
      rw [List.getD_eq_getElem?_getD, hp] at hF
      obtain ⟨A2, c2, rfl, l2, g2⟩ := k32_openF hF
      have hc' : ∀ i u, ([.int .i64 p.f0, .int .i64 p.f1, .slice A2 p.f2.length c2] : List Value)[i]? = some u → w.cell? (ad.add (j * 3 + i)) = some u := hcell
      exact ⟨(A2, c2), ⟨hc' 0 _ rfl, by rw [← add_field _ _ 1 (by omega)]; exact hc' 1 _ rfl, by rw [← add_field _ _ 2 (by omega)]; exact hc' 2 _ rfl, l2, Kd.F_now g2⟩, l2, g2⟩)
    have hall : ∀ i ∈ ys, i.1.f2.length ≤ i.2.2 ∧ Kd.F (Kd.int .u8) w P i.2.1 i.1.f2.length i.1.f2 := fun i hi => by
      obtain ⟨j, hj⟩ := List.getElem?_of_mem hi
      exact (hq j i hj).2
    refine ⟨ys.pmap Subtype.mk hall, ?_, fun _ => ⟨ad, rfl, fun j i hj => ?_⟩⟩
    · rw [← e, List.map_pmap]
      exact List.pmap_eq_map ..
    · rw [List.getElem?_pmap] at hj
      obtain ⟨y, hy, hy1, rfl⟩ := Option.pmap_eq_some_iff.1 hj
      exact (hq j y hy1).1
set_option maxRecDepth 100000 in
set_option maxHeartbeats 2000000 in
theorem lof_in (F : Fence) (n : Nat) (h13 : F.fn 13) (h22 : F.fn 22) (h29 : F.fn 29) (hro : F.round = none) (hn : 3 ≤ n) (dir : Int) (A : Option Addr) (cap : Nat) (w : World) (P : Nat → Prop) (its : List (Shd w P)) (hN : its.length ≤ 1048576)
    (hits : 0 < its.length → ∃ ad, A = some ad ∧ ∀ j i, its[j]? = some i → ItmAt w ad j i.1) :
    CallsIn F n Try.prog 13 #[.int .i64 dir, .slice A its.length cap] w fun e W' => ∃ v, e = .returned v ∧ W'.ownsRow w.heap.size 32 3 v (those Subtype.val dir its).length (cellsOf (those Subtype.val dir its)) ∧ Below w.heap.size w W' := by
  have h1 : 1 ≤ n := by omega
  refine callsIn_of_wp_marks Try.func13 rfl h13 ?_ hro
  simp only [Try.ntmps13, List.size_toArray, List.length_cons, List.length_nil, Nat.reduceAdd, Nat.reduceSub, Array.replicate_succ, Array.replicate_zero, List.push_toArray, List.append_toArray, List.nil_append, List.cons_append]
  gi_wp2_with (gi_at_call 22; refine (of_in F (n - 1) h22 hro _ _ _ _ _).mono ?_; rintro e w' ⟨rfl, rfl⟩)
  have bO := Boxed.new w 22 (.slice none 0 0)
  have bD := Boxed.new (w.alloc (.cells #[.slice none 0 0] 22)) 3 (.int .i64 dir)
  have bL := Boxed.new ((w.alloc (.cells #[.slice none 0 0] 22)).alloc (.cells #[.int .i64 dir] 3)) 22 (.slice A its.length cap)
  rw [World.size_alloc] at bD
  rw [World.size_alloc, World.size_alloc] at bL
  replace bD := bD.alloc (.cells #[.slice A its.length cap] 22)
  replace bO := (bO.alloc (.cells #[.int .i64 dir] 3)).alloc (.cells #[.slice A its.length cap] 22)
  have hB0 : Below w.heap.size w (((w.alloc (.cells #[.slice none 0 0] 22)).alloc (.cells #[.int .i64 dir] 3)).alloc (.cells #[.slice A its.length cap] 22)) := (((Below.refl _ w).alloc (Nat.le_refl _) _).alloc (by simp) _).alloc (by simp; omega) _
  have hsz : (((w.alloc (.cells #[.slice none 0 0] 22)).alloc (.cells #[.int .i64 dir] 3)).alloc (.cells #[.slice A its.length cap] 22)).heap.size = w.heap.size + 3 := by simp
  generalize ((w.alloc (.cells #[.slice none 0 0] 22)).alloc (.cells #[.int .i64 dir] 3)).alloc (.cells #[.slice A its.length cap] 22) = W0 at *
  refine wpIn_rangeFunc_ownH hro h1 (gf := 29) (lb := #[.pointer (some ⟨w.heap.size + 1 + 1, 0, none⟩), .pointer (some ⟨w.heap.size + 1, 0, none⟩)]) rfl h29 (enters_of Try.func29 (by kernel_rfl) rfl)
    (of_stops Subtype.val F (n - 1) h29 hro (by omega) (w.heap.size + 1 + 1) (w.heap.size + 1) dir A cap its (by omega) w W0 hB0 bL.cell bD hits) keepOf_t (keepOf_b (by omega) (by omega)) (Below.refl _ _) (fun _ => rfl)
    (fun pre W => ((∃ v, Boxed W w.heap.size 22 v ∧ W.ownsRow w.heap.size 32 3 v pre.length (cellsOf pre) ∧ True) ∧ Below w.heap.size w W) ∧ Boxed W (w.heap.size + 1) 3 (.int .i64 dir))
    (fun _ _ _ => False)
    (OwnFrom.and (OwnFrom.and (Own.from (holdsRow_own w.heap.size w.heap.size 22 32 3 (fun pre => pre.length) (fun pre => cellsOf pre) (fun _ _ => True)) _) (ownFrom_below (Nat.le_refl _) (by omega))) (Own.from (boxed_own _ _ _) _))
    (fun _ _ _ _ _ hs _ _ => hs)
    ⟨⟨⟨_, bO, World.ownsRow_nil _ _ _ _, trivial⟩, hB0⟩, bD⟩
    (fun x a' W => ∃ Bx, BoxE W Bx x.1 ∧ a' = { tmps := #[.int .i64 dir, .slice A its.length cap, undef, undef, .slice none 0 0, .pointer (some ⟨w.heap.size, 0, none⟩), .pointer (some ⟨Bx, 0, none⟩), .int .i64 dir, .slice A its.length cap, .func (.func 29) #[] #[.pointer (some ⟨w.heap.size + 1 + 1, 0, none⟩), .pointer (some ⟨w.heap.size + 1, 0, none⟩)], Itm.val x.1, undef, undef, undef, undef, undef], defers := [] })
    (fun x a' => by
      rintro s X Y row ⟨Bx, hv, h2⟩ hg hrow
      exact ⟨Bx, (boxE_own Bx x.1 W0.heap.size True s X Y row ⟨hv, trivial⟩ hg hrow).1, h2⟩) ?assign ?body ?done ?stop
  case assign =>
    rintro l pre x W K ⟨⟨⟨v, hv, hrow, _⟩, hB⟩, hd⟩ hK
    unfold Itm.val
    gi_wp2
    refine hK _ _ ((KeepsOthers.alloc _ _).from _) ⟨(Below.refl _ W).alloc hB.size _, fun h => h.alloc _⟩ ⟨⟨⟨v, hv.alloc _, hrow.alloc _, trivial⟩, hB.alloc hB.size _⟩, hd.alloc _⟩ ⟨W.heap.size, World.alloc_heap_new W _, rfl⟩
  case body =>
    rintro l pre x a' W hl ⟨r, hr⟩ ⟨⟨⟨v, hv, hrow, _⟩, hB⟩, hd⟩ ⟨Bx, bX, rfl⟩ hlt
    have hc := hv.cell
    obtain ⟨hx0, hx1, hx2⟩ := bX.cells
    have hv0 := hv.alloc (.cells (cells3 x.1).toArray 32)
    have hrow0 := hrow.alloc (.cells (cells3 x.1).toArray 32)
    have hB0' := hB.alloc hB.size (.cells (cells3 x.1).toArray 32)
    unfold cells3 at hv0 hrow0 hB0'
    have hl3 : (cells3 x.1).length = 1 * 3 := rfl
    have hn3 : ∀ j u, (cells3 x.1)[j]? = some u → (W.alloc (.cells (cells3 x.1).toArray 32)).cell? ((⟨W.heap.size, 0, none⟩ : Addr).add j) = some u := fun j u hu => by
      rw [add_plain]
      have := World.alloc_heap_new W (.cells (cells3 x.1).toArray 32)
      exact (blk_cell this j).trans (by simpa using hu)
    have ho3 : ∀ u ∈ cells3 x.1, u.oneCell' = true := fun u hu => by
      unfold cells3 at hu
      simp only [List.mem_cons, List.not_mem_nil, or_false] at hu
      rcases hu with rfl | rfl | rfl <;> rfl
    have HN := Lib.hid hn3
    have HO3 := Lib.hid ho3
    clear hn3 ho3
    gi_wp2_with (gi_at_builtin; refine in_append_cells w.heap.size rfl _ _ 22 32 (.agg #[.int .i64 0, .int .i64 0, .slice none 0 0]) 3 40 rfl Try.underlying22 info32 rfl (by decide) (by decide) v pre.length (cellsOf pre) ⟨W.heap.size, 0, none⟩ 1 1 (cells3 x.1) rfl rfl hrow0 hl3 HN.out HO3.out hB0'.size (by omega) ?_; rintro v1 w1 hown' hgrow ⟨A1, c1, rfl⟩; obtain ⟨hv1, hv2, hr2, hk2, hb2⟩ := box_appended_row hv0 (by decide) hrow0 hB0'.size (Nat.le_refl _) hown' hgrow; have hc1 := hv1.cell; have hf1 := hv1.frozen)
    have hd2 := fun (h : Boxed W (w.heap.size + 1) 3 (.int .i64 dir)) => ((h.alloc (.cells (cells3 x.1).toArray 32)).kept hgrow ((h.alloc _).not_row (by decide) hrow0)).kept (grownBy_setCell' w1 w.heap.size (.slice A1 (pre.length + 1) c1)) (by simp)
    have hkA : KeepsOthers W (W.alloc (.cells (cells3 x.1).toArray 32)) := KeepsOthers.alloc _ _
    exact ⟨(hkA.trans hk2).from _, ⟨((Below.refl _ W).alloc hB.size _).trans hb2, hd2⟩, ⟨⟨⟨_, hv2, by rw [cellsOf_snoc, List.length_append]; exact hr2, trivial⟩, hB0'.trans hb2⟩, hd2 hd⟩⟩
  case done =>
    rintro D ys W hD rfl ⟨⟨⟨v, hv, hrow, _⟩, hB⟩, hd⟩ hK
    have hc := hv.cell
    gi_wp2
    refine ⟨by simp, .inl ⟨_, _, rfl, run_takeDeferred hK, ?_⟩⟩
    exact ⟨_, results_tmp rfl _ _ _, v, rfl, ownsRow_putObj hrow _ hK rfl, hB.trans (belowK_b (w := w) (Nat.le_refl _) W D _ _ (by omega) hK rfl rfl)⟩
  case stop =>
    rintro D c pre W _ _ h _
    exact h.elim
theorem reps_flat {sz : Nat} {R : List Value → List Value → Prop} (rows : List (List Value)) (hr : ∀ c ∈ rows, c.length = sz ∧ R c c) : ∀ n, n ≤ rows.length → Reps R sz (rows.take n) ((rows.take n).flatMap id) := by
  intro n
  induction n with
  | zero => intro _; simpa using Reps.none R sz
  | succ n ih =>
    intro hn
    rw [List.take_succ_eq_append_getElem (by omega), List.flatMap_append]
    have := hr _ (List.getElem_mem (show n < rows.length by omega))
    simpa using (ih (by omega)).snoc this.2 this.1
/-- a row of such events: its own cells, and what these lead to -/
theorem n_of_cells {w w' : World} {base : Nat} {P : Nat → Prop} {v : Value} {its : List (Shd w P)} (hb : Below w.heap.size w w') (hbase : base = w.heap.size) (h : w'.ownsRow base 32 3 v its.length (cellsOf its)) :
    Kd.N k32 32 w' base (fun k => P k ∨ base ≤ k) v (its.map fun i => i.1.1) := by
  subst hbase
  have hflat : cellsOf its = (its.map fun i => cells3 i.1).flatMap id := by unfold cellsOf; rw [List.flatMap_map]; rfl
  refine ⟨fun k hk => .inr (own_base h k hk), its.map fun i => cells3 i.1, by simp, ⟨fun k hk => hk.symm, cellsOf its, by rw [List.length_map]; exact h, ?_⟩, ?_⟩
  · have := reps_flat (sz := 3) (R := fun x cs => cs = x ∧ cs.length = 3 ∧ ∀ u ∈ cs, u.oneCell' = true) (its.map fun i => cells3 i.1) (fun c hc => by
      obtain ⟨i, _, rfl⟩ := List.mem_map.1 hc
      refine ⟨rfl, rfl, rfl, fun u hu => ?_⟩
      unfold cells3 at hu
      simp only [List.mem_cons, List.not_mem_nil, or_false] at hu
      rcases hu with rfl | rfl | rfl <;> rfl) _ (Nat.le_refl _)
    rw [List.take_length] at this
    rw [hflat]
    exact this
  · intro j x c hx hc
    rw [List.getElem?_map] at hx hc
    obtain ⟨i, hi, rfl⟩ := Option.map_eq_some_iff.1 hx
    rw [hi] at hc
    obtain rfl := Option.some.inj hc
    refine k32_mkF w' _ i.1.1 i.2.1 (Kd.F_mono (Kd.F_below (Kd.F_bound i.2.2) hb) fun k hk => ⟨.inl hk.1, fun e => ?_⟩)
    have := own_base h k e.symm
    have := hk.2
    omega
/-- those of a direction; none where there are too many -/
def cuecardlaw04_of.f (k : Nat) (dir : Int) (l : List S32) : Option (List S32) := if l.length ≤ 1048576 then some (l.filter fun x => x.f0 == dir) else none
theorem cuecardlaw04_of.mono : ∀ a0 a1 k, LeO (cuecardlaw04_of.f k a0 a1) (cuecardlaw04_of.f (k + 1) a0 a1) := fun _ _ _ => LeO.refl _
theorem cuecardlaw04_of.calls (k : Nat) (a0 : Int) (P1_ : Nat → Prop) (A1 : Option Addr) (c1 : Nat) (l1 : List (S32)) (r : List (S32)) (w : World) (hs1 : Kd.V k32 32 w w.heap.size (fun k_ => P1_ k_) (.slice A1 l1.length c1) l1) (h : cuecardlaw04_of.f k a0 l1 = some r) :
    Calls Try.prog 13 #[.int .i64 a0, .slice A1 l1.length c1] w fun e w' => ∃ v0_ : Value, e = .returned (v0_) ∧ Kd.N k32 32 w' w.heap.size (fun k_ => (P1_ k_ ∨ w.heap.size ≤ k_)) v0_ r ∧ Below w.heap.size w w' := by
  unfold cuecardlaw04_of.f at h
  by_cases hc : l1.length ≤ 1048576
  · rw [if_pos hc] at h
    obtain rfl := Option.some.inj h
    obtain ⟨its, rfl, hits⟩ := items_shd (Kd.V_F hs1)
    rw [List.length_map] at *
    refine (callsIn_wide (n := 3)).1 ?_
    refine (lof_in _ 3 trivial trivial trivial rfl (by omega) a0 A1 c1 w _ its hc hits).mono ?_
    rintro e w' ⟨v, rfl, hv, hb⟩
    refine ⟨v, rfl, ?_, hb⟩
    have := n_of_cells hb rfl hv
    have e : (its.map (fun i => i.1.1)).filter (fun x => x.f0 == a0) = (those Subtype.val a0 its).map fun i => i.1.1 := by
      unfold those
      rw [List.filter_map]
      rfl
    rw [e]
    exact this
  · rw [if_neg hc] at h; cases h
end Go.Proofs.Ytdbnmccflbkcoaa.QA
