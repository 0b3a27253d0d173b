/- What is proved here: what event.Bytes returns: a slice of its own that holds the bytes of the direction's events, one behind the other; conditions: at most 1048576 events of at most 1048576 bytes. -/
import Derived.Test.YtdbnmccflbkcoaaGOf
import Derived.Lib.Hide
namespace Go.Proofs.Ytdbnmccflbkcoaa.QA
open Go.RowKit Go.Shelf Go.Proofs.YtdbnmccflbkcoaaW.PrintWords Go.Proofs.YtdbnmccflbkcoaaW.PrintLast Go.Proofs.YtdbnmccflbkcoaaW.PrintMore
attribute [local go_sem] Oper.semAt_some
set_option linter.unusedVariables false
set_option linter.unusedSimpArgs false
/-! ### append(v, ys...), ys a slice that is read -/
theorem run_append_row {P : Program} {W : World} (base : Nat) (t ty e : TypeId) (k : IntKind) (bytes : Nat)
    (ht : P.underlying t = some (.slice e)) (hinfo : (P.info? e).map (fun i => (i.zero, i.size, i.bytes)) = some (some (.int k 0), 1, bytes)) (hb0 : 0 < bytes)
    (v : Value) (xs ys : List Int) (A : Option Addr) (m c : Nat)
    (HO : W.ownsRow base e 1 v xs.length (nums k xs)) (HR : ReadsInt W k A m ys) (hbase : base ≤ W.heap.size) (hl : (xs.length + m) * bytes ≤ 140737488355328) :
    ∃ v1 w1, (Builtin.append_ #[t, t] ty #[v, .slice A m c]).run P W = .ok v1 w1 ∧ w1.ownsRow base e 1 v1 (xs ++ ys).length (nums k (xs ++ ys)) ∧ W.grownBy w1 v.ownBlock ∧ ∃ A1 c1, v1 = .slice A1 (xs ++ ys).length c1 := by
  obtain ⟨i0, hi, hzz⟩ := Option.map_eq_some_iff.1 hinfo
  simp only [Prod.mk.injEq] at hzz
  obtain ⟨hz0, hz1, hz2⟩ := hzz
  have hm : ys.length = m := HR.1
  have hlen : xs.length + m ≤ 140737488355328 := Nat.le_trans (Nat.le_mul_of_pos_right _ hb0) hl
  have key : ∃ v1 w1, (Builtin.append_ #[t, t] ty #[v, .slice A m c]).run P W = .ok v1 w1 ∧ w1.ownsRow base e 1 v1 (xs ++ ys).length (nums k (xs ++ ys)) ∧ W.grownBy w1 v.ownBlock := by
    rcases A with _ | ad
    · have h0 : m = 0 := by
        rcases Nat.eq_zero_or_pos m with h0 | h0
        · exact h0
        · obtain ⟨ad, h, _⟩ := HR.2.2 h0
          cases h
      subst h0
      obtain rfl : ys = [] := List.eq_nil_of_length_eq_zero hm
      refine ⟨v, W, ?_, by simpa using HO, World.grownBy.refl W _⟩
      rcases HO.2 with ⟨rfl, hn⟩ | ⟨g, cap, cur, rfl, _, _, hnc, _⟩
      · simp [Builtin.append_, run_underlying ht, sizeOf, typeInfo, hi, Builtin.lenOf, Builtin.firstCells]
      · simp [Builtin.append_, run_underlying ht, sizeOf, typeInfo, hi, Builtin.lenOf, Builtin.firstCells, hnc, storeCells]
    · have hcells : ∀ j u, (nums k ys)[j]? = some u → W.cell? (ad.add j) = some u := by
        intro j u hu
        have hj : j < ys.length := by
          rcases Nat.lt_or_ge j ys.length with h | h
          · exact h
          · simp [nums, List.getElem?_eq_none h] at hu
        obtain ⟨ad', h', hc⟩ := HR.2.2 (by omega)
        injection h' with h'
        subst h'
        have := hc j (by omega)
        simp [nums, List.getElem?_eq_getElem hj] at hu
        subst hu
        rw [this]
        simp [List.getD_eq_getElem?_getD, List.getElem?_eq_getElem hj]
      obtain ⟨v1, w1, hr, h2, h3, _⟩ := run_append_own (P := P) W base t ty e i0 (.int k 0) 1 bytes ht hi hz0 hz1 hz2 rfl (by omega) v xs.length (nums k xs) HO ad m c (nums k ys) (by simp [nums, hm]) hcells
        (by intro u hu; simp only [nums, List.mem_map] at hu; obtain ⟨q, _, rfl⟩ := hu; rfl) (by simp only [maxLen]; omega) hl hbase
      exact ⟨v1, w1, hr, by simpa [nums, hm] using h2, h3⟩
  obtain ⟨v1, w1, h1, h2, h3⟩ := key
  exact ⟨v1, w1, h1, h2, h3, own_slice h2⟩
theorem in_append_row {F : Fence} {n : Nat} {P : Program} {W : World} {ops : Array Oper} {rest : List Oper} {o : Oper} {a : Act} {Q : Exit → Act → World → Prop}
    (base : Nat) (hg : o.guard = none) (s x : Operand) (t e : TypeId) (k : IntKind) (bytes : Nat)
    (hop : o.op = Op.call { callee := Callee.builtin Builtin.append, args := #[s, x], argTypes := #[t, t] })
    (ht : P.underlying t = some (.slice e)) (hinfo : (P.info? e).map (fun i => (i.zero, i.size, i.bytes)) = some (some (.int k 0), 1, bytes)) (hb0 : 0 < bytes)
    (v : Value) (xs ys : List Int) (A : Option Addr) (m c : Nat) (hs : a.eval s = v) (hx : a.eval x = .slice A m c)
    (HO : W.ownsRow base e 1 v xs.length (nums k xs)) (HR : ReadsInt W k A m ys) (hbase : base ≤ W.heap.size) (hl : (xs.length + m) * bytes ≤ 140737488355328)
    (h : ∀ v1 w1, w1.ownsRow base e 1 v1 (xs ++ ys).length (nums k (xs ++ ys)) → W.grownBy w1 v.ownBlock → (∃ A1 c1, v1 = .slice A1 (xs ++ ys).length c1) → wpListIn F n P ops Q rest (a.put o.dst v1) w1) :
    wpListIn F n P ops Q (o :: rest) a W := by
  refine wpListIn_plain hg fun K hK' => ?_
  obtain ⟨v1, w1, hrun, h1, h2, h3⟩ := run_append_row (P := P) (W := W) base t o.type e k bytes ht hinfo hb0 v xs ys A m c HO HR hbase hl
  unfold Oper.wpIn
  refine ⟨?_, ?_⟩
  · simp [Oper.about, hop, resolve, Target.leads, Sem.run_pure]
  · rw [Oper.semAt_plain F _ _ (by rw [hop]; intro c hc'; cases hc')]
    simp [execOp, hop, resolve, invoke, builtin, hs, hx, hrun, Result.andThen]
    exact hK' _ _ (h v1 w1 h1 h2 h3)
/-- a variable's box, behind an append of a row and the store back -/
theorem box_appended_row {W w1 : World} {n₀ B : Nat} {t e : TypeId} {size : Nat} {v v' : Value} {k m : Nat} {xs ys : List Value}
    (hv : Boxed W B t v) (hte : t ≠ e) (hrow : W.ownsRow n₀ e size v k xs) (hn₀ : n₀ ≤ W.heap.size) (hB : n₀ ≤ B)
    (hown' : w1.ownsRow n₀ e size v' m ys) (hgrow : W.grownBy w1 v.ownBlock) :
    Boxed w1 B t v ∧ Boxed (w1.setCell ⟨B, 0, none⟩ v') B t v' ∧ (w1.setCell ⟨B, 0, none⟩ v').ownsRow n₀ e size v' m ys ∧ KeepsOthers W (w1.setCell ⟨B, 0, none⟩ v') ∧ Below n₀ W (w1.setCell ⟨B, 0, none⟩ v') := by
  have hv1 : Boxed w1 B t v := hv.kept hgrow (hv.not_row hte hrow)
  refine ⟨hv1, hv1.set v', hown'.kept (grownBy_setCell' w1 B v') (.inr (hv1.not_row hte hown').symm), ?_, ?_⟩
  · refine (KeepsOthers.of_grownBy hgrow fun j o ej hj => ?_).trans (KeepsOthers.setCell _ _ _)
    rcases hrow.2 with ⟨rfl, _⟩ | ⟨g, cap, cur, rfl, _, hgb, _⟩
    · simp [Value.ownBlock] at ej
    · obtain rfl : g = j := by simpa [Value.ownBlock] using ej
      rw [hgb] at hj; cases hj; rfl
  · exact ((Below.refl n₀ W).grown hgrow hn₀ (own_base hrow)).setCell (p := ⟨B, 0, none⟩) hB v'
/-! ### event.Bytes -/
/-- an event whose bytes are read, and are not too many -/
abbrev Good (w : World) : Type := { i : Itm // i.1.f2.length ≤ 1048576 ∧ (Kd.int .u8).C w i.2.1 i.1.f2.length i.1.f2 }
def cat {w : World} (its : List (Good w)) : List Int := its.flatMap fun i => i.1.1.f2
theorem cat_snoc {w : World} (its : List (Good w)) (x : Good w) : cat (its ++ [x]) = cat its ++ x.1.1.f2 := by simp [cat]
theorem cat_le {w : World} (its : List (Good w)) : (cat its).length ≤ its.length * 1048576 := by
  induction its with
  | nil => simp [cat]
  | cons x r ih =>
    have := x.2.1
    have e : cat (x :: r) = x.1.1.f2 ++ cat r := rfl
    rw [e, List.length_append, List.length_cons]
    omega
/-- block B is the box of a loop's event -/
def BoxE (W : World) (B : Nat) (i : Itm) : Prop := W.heap[B]? = some (.cells #[.int .i64 i.1.f0, .int .i64 i.1.f1, .slice i.2.1 i.1.f2.length i.2.2] 32 (0, 0))
theorem BoxE.lt {W : World} {B : Nat} {i : Itm} (h : BoxE W B i) : B < W.heap.size := (Array.getElem?_eq_some_iff.1 h).1
theorem BoxE.kept {W W' : World} {row : Option Nat} {B : Nat} {i : Itm} (h : BoxE W B i) (hg : W.grownBy W' row) (hne : some B ≠ row) : BoxE W' B i := (hg.block B h.lt hne).trans h
theorem BoxE.cells {W : World} {B : Nat} {i : Itm} (h : BoxE W B i) : W.cell? ⟨B, 0, none⟩ = some (.int .i64 i.1.f0) ∧ W.cell? ⟨B, 1, none⟩ = some (.int .i64 i.1.f1) ∧ W.cell? ⟨B, 2, none⟩ = some (.slice i.2.1 i.1.f2.length i.2.2) := by
  refine ⟨?_, ?_, ?_⟩ <;> simp [World.cell?, show W.heap[B]? = _ from h]
theorem boxE_own (B : Nat) (i : Itm) (n₀ : Nat) (x : Prop) : OwnFrom n₀ (fun (_ : Unit) W => BoxE W B i ∧ x) := by
  rintro s X Y row ⟨hv, hx⟩ hg hrow
  refine ⟨hv.kept hg (fun e' => ?_), hx⟩
  obtain ⟨_, o, ho, hc⟩ := hrow B e'.symm
  rw [show X.heap[B]? = _ from hv] at ho; cases ho; cases hc
set_option maxRecDepth 100000 in
set_option maxHeartbeats 2000000 in
theorem bytes_in (F : Fence) (n : Nat) (h14 : F.fn 14) (h22 : F.fn 22) (h29 : F.fn 29) (hro : F.round = none) (hn : 3 ≤ n) (dir : Int) (A : Option Addr) (cap : Nat) (w : World) (its : List (Good w)) (hN : its.length ≤ 1048576)
    (hits : 0 < its.length → ∃ ad, A = some ad ∧ ∀ j i, its[j]? = some i → ItmAt w ad j i.1) :
    CallsIn F n Try.prog 14 #[.int .i64 dir, .slice A its.length cap] w fun e W' => ∃ v, e = .returned v ∧ W'.ownsRow w.heap.size 5 1 v (cat (those Subtype.val dir its)).length (nums .u8 (cat (those Subtype.val dir its))) ∧ Below w.heap.size w W' := by
  have h1 : 1 ≤ n := by omega
  refine callsIn_of_wp_marks Try.func14 rfl h14 ?_ hro
  simp only [Try.ntmps14, List.size_toArray, List.length_cons, List.length_nil, Nat.reduceAdd, Nat.reduceSub, Array.replicate_succ, Array.replicate_zero, List.push_toArray, List.append_toArray, List.nil_append, List.cons_append]
  gi_wp2_with (gi_at_call 22; refine (of_in F (n - 1) h22 hro _ _ _ _ _).mono ?_; rintro e w' ⟨rfl, rfl⟩)
  have bO := Boxed.new w 26 (.slice none 0 0)
  have bD := Boxed.new (w.alloc (.cells #[.slice none 0 0] 26)) 3 (.int .i64 dir)
  have bL := Boxed.new ((w.alloc (.cells #[.slice none 0 0] 26)).alloc (.cells #[.int .i64 dir] 3)) 22 (.slice A its.length cap)
  rw [World.size_alloc] at bD
  rw [World.size_alloc, World.size_alloc] at bL
  replace bD := bD.alloc (.cells #[.slice A its.length cap] 22)
  replace bO := (bO.alloc (.cells #[.int .i64 dir] 3)).alloc (.cells #[.slice A its.length cap] 22)
  have hB0 : Below w.heap.size w (((w.alloc (.cells #[.slice none 0 0] 26)).alloc (.cells #[.int .i64 dir] 3)).alloc (.cells #[.slice A its.length cap] 22)) := (((Below.refl _ w).alloc (Nat.le_refl _) _).alloc (by simp) _).alloc (by simp; omega) _
  have hsz : (((w.alloc (.cells #[.slice none 0 0] 26)).alloc (.cells #[.int .i64 dir] 3)).alloc (.cells #[.slice A its.length cap] 22)).heap.size = w.heap.size + 3 := by simp
  generalize ((w.alloc (.cells #[.slice none 0 0] 26)).alloc (.cells #[.int .i64 dir] 3)).alloc (.cells #[.slice A its.length cap] 22) = W0 at *
  refine wpIn_rangeFunc_ownH hro h1 (gf := 29) (lb := #[.pointer (some ⟨w.heap.size + 1 + 1, 0, none⟩), .pointer (some ⟨w.heap.size + 1, 0, none⟩)]) rfl h29 (enters_of Try.func29 (by kernel_rfl) rfl)
    (of_stops Subtype.val F (n - 1) h29 hro (by omega) (w.heap.size + 1 + 1) (w.heap.size + 1) dir A cap its (by omega) w W0 hB0 bL.cell bD hits) keepOf_t (keepOf_b (by omega) (by omega)) (Below.refl _ _) (fun _ => rfl)
    (fun pre W => ((∃ v, Boxed W w.heap.size 26 v ∧ W.ownsRow w.heap.size 5 1 v (cat pre).length (nums .u8 (cat pre)) ∧ True) ∧ Below w.heap.size w W) ∧ Boxed W (w.heap.size + 1) 3 (.int .i64 dir))
    (fun _ _ _ => False)
    (OwnFrom.and (OwnFrom.and (Own.from (holdsRow_own w.heap.size w.heap.size 26 5 1 (fun pre => (cat pre).length) (fun pre => nums .u8 (cat pre)) (fun _ _ => True)) _) (ownFrom_below (Nat.le_refl _) (by omega))) (Own.from (boxed_own _ _ _) _))
    (fun _ _ _ _ _ hs _ _ => hs)
    ⟨⟨⟨_, bO, World.ownsRow_nil _ _ _ _, trivial⟩, hB0⟩, bD⟩
    (fun x a' W => ∃ Bx, BoxE W Bx x.1 ∧ a' = { tmps := #[.int .i64 dir, .slice A its.length cap, undef, undef, .slice none 0 0, .pointer (some ⟨w.heap.size, 0, none⟩), .pointer (some ⟨Bx, 0, none⟩), .int .i64 dir, .slice A its.length cap, .func (.func 29) #[] #[.pointer (some ⟨w.heap.size + 1 + 1, 0, none⟩), .pointer (some ⟨w.heap.size + 1, 0, none⟩)], Itm.val x.1, undef, undef, undef, undef, undef], defers := [] })
    (fun x a' => by
      rintro s X Y row ⟨Bx, hv, h2⟩ hg hrow
      exact ⟨Bx, (boxE_own Bx x.1 W0.heap.size True s X Y row ⟨hv, trivial⟩ hg hrow).1, h2⟩) ?assign ?body ?done ?stop
  case assign =>
    rintro l pre x W K ⟨⟨⟨v, hv, hrow, _⟩, hB⟩, hd⟩ hK
    unfold Itm.val
    gi_wp2
    refine hK _ _ ((KeepsOthers.alloc _ _).from _) ⟨(Below.refl _ W).alloc hB.size _, fun h => h.alloc _⟩ ⟨⟨⟨v, hv.alloc _, hrow.alloc _, trivial⟩, hB.alloc hB.size _⟩, hd.alloc _⟩ ⟨W.heap.size, World.alloc_heap_new W _, rfl⟩
  case body =>
    rintro l pre x a' W hl ⟨r, hr⟩ ⟨⟨⟨v, hv, hrow, _⟩, hB⟩, hd⟩ ⟨Bx, bX, rfl⟩ hlt
    have hc := hv.cell
    obtain ⟨hx0, hx1, hx2⟩ := bX.cells
    have hcl := cat_le pre
    have hxl := x.2.1
    have HR : ReadsInt W .u8 x.1.2.1 x.1.1.f2.length x.1.1.f2 := Kd.reads_of_C (d := (0 : Int)) (h1 := fun _ => rfl) (Kd.C_below x.2.2 hB)
    gi_wp2_with (gi_at_builtin; refine in_append_row w.heap.size rfl _ _ 26 5 .u8 1 rfl Try.underlying26 info5 (by decide) _ (cat pre) x.1.1.f2 x.1.2.1 x.1.1.f2.length x.1.2.2 rfl rfl hrow HR hB.size (by omega) ?_; rintro v1 w1 hown' hgrow ⟨A1, c1, rfl⟩; obtain ⟨hv1, hv2, hr2, hk2, hb2⟩ := box_appended_row hv (by decide) hrow hB.size (Nat.le_refl _) hown' hgrow; have hc1 := hv1.cell; have hf1 := hv1.frozen)
    have e : (cat pre ++ x.1.1.f2).length = (cat pre).length + x.1.1.f2.length := List.length_append
    rw [e] at hv2 hr2 hk2 hb2 hown'
    have hd2 := fun (h : Boxed W (w.heap.size + 1) 3 (.int .i64 dir)) => (h.kept hgrow (h.not_row (by decide) hrow)).kept (grownBy_setCell' w1 w.heap.size (.slice A1 ((cat pre).length + x.1.1.f2.length) c1)) (by simp)
    exact ⟨hk2.from _, ⟨hb2, hd2⟩, ⟨⟨⟨_, hv2, by rw [cat_snoc, e]; exact hr2, trivial⟩, hB.trans hb2⟩, hd2 hd⟩⟩
  case done =>
    rintro D ys W hD rfl ⟨⟨⟨v, hv, hrow, _⟩, hB⟩, hd⟩ hK
    have hc := hv.cell
    gi_wp2
    refine ⟨by simp, .inl ⟨_, _, rfl, run_takeDeferred hK, ?_⟩⟩
    exact ⟨_, results_tmp rfl _ _ _, v, rfl, ownsRow_putObj hrow _ hK rfl, hB.trans (belowK_b (w := w) (Nat.le_refl _) W D _ _ (by omega) hK rfl rfl)⟩
  case stop =>
    rintro D c pre W _ _ h _
    exact h.elim
theorem itms_good {w : World} {A : Option Addr} {n : Nat} {l : List S32} (h : Kd.C k32 w A n l) (hs : ∀ x ∈ l, x.f2.length ≤ 1048576) : ∃ its : List (Good w), its.map (fun i => i.1.1) = l ∧ (0 < n → ∃ ad, A = some ad ∧ ∀ j i, its[j]? = some i → ItmAt w ad j i.1) := by
  obtain ⟨its, e, hi⟩ := items h
  have hg : ∀ i ∈ its, i.1.f2.length ≤ 1048576 ∧ (Kd.int .u8).C w i.2.1 i.1.f2.length i.1.f2 := by
    intro i hi'
    obtain ⟨j, hj⟩ := List.getElem?_of_mem hi'
    have hlen : its.length = n := by rw [← h.1, ← e, List.length_map]
    have hjl : j < its.length := (List.getElem?_eq_some_iff.1 hj).1
    obtain ⟨ad, _, hat⟩ := hi (by omega)
    refine ⟨hs _ ?_, (hat j i hj).2.2.2.2⟩
    rw [← e]
    exact List.mem_map.2 ⟨i, hi', rfl⟩
  refine ⟨its.pmap Subtype.mk hg, ?_, fun hn => ?_⟩
  · rw [← e, List.map_pmap]
    exact List.pmap_eq_map ..
  · obtain ⟨ad, hA, hat⟩ := hi hn
    refine ⟨ad, hA, fun j i hj => ?_⟩
    rw [List.getElem?_pmap] at hj
    obtain ⟨y, hy, hy1, rfl⟩ := Option.pmap_eq_some_iff.1 hj
    exact hat j y hy1
/-- the bytes of a direction; none where there are too many -/
def event_Bytes.f (k : Nat) (dir : Int) (l : List S32) : Option (List Int) :=
  if l.length ≤ 1048576 ∧ ∀ x ∈ l, x.f2.length ≤ 1048576 then some ((l.filter fun x => x.f0 == dir).flatMap fun x => x.f2) else none
theorem event_Bytes.mono : ∀ a0 a1 k, LeO (event_Bytes.f k a0 a1) (event_Bytes.f (k + 1) a0 a1) := fun _ _ _ => LeO.refl _
theorem event_Bytes.calls (k : Nat) (a0 : Int) (A1 : Option Addr) (c1 : Nat) (l1 : List (S32)) (r : List Int) (w : World) (hr1 : Kd.C k32 w A1 l1.length l1) (hc1 : l1.length ≤ c1) (h : event_Bytes.f k a0 l1 = some r) :
    Calls Try.prog 14 #[.int .i64 a0, .slice A1 l1.length c1] w fun e w' => ∃ v0_ : Value, e = .returned (v0_) ∧ Kd.R (Kd.int .u8) 5 w' w.heap.size (fun _ => True) v0_ r ∧ Below w.heap.size w w' := by
  unfold event_Bytes.f at h
  by_cases hc : l1.length ≤ 1048576 ∧ ∀ x ∈ l1, x.f2.length ≤ 1048576
  · rw [if_pos hc] at h
    obtain rfl := Option.some.inj h
    obtain ⟨its, rfl, hits⟩ := itms_good hr1 hc.2
    rw [List.length_map] at *
    refine (callsIn_wide (n := 3)).1 ?_
    refine (bytes_in _ 3 trivial trivial trivial rfl (by omega) a0 A1 c1 w its hc.1 hits).mono ?_
    rintro e w' ⟨v, rfl, hv, hb⟩
    refine ⟨v, rfl, ?_, hb⟩
    have e : ((its.map (fun i => i.1.1)).filter fun x => x.f0 == a0).flatMap (fun x => x.f2) = cat (those Subtype.val a0 its) := by
      unfold cat those
      rw [List.filter_map, List.flatMap_map]
      rfl
    rw [e]
    exact Kd.R_of_own hv (fun _ _ => trivial)
  · rw [if_neg hc] at h; cases h
end Go.Proofs.Ytdbnmccflbkcoaa.QA
