import Derived.RangeFuncNested
import Derived.RangeFuncBound
import Derived.RangeFuncCalls
import Derived.RangeFuncLeaves
import Derived.Shelf.Abstract
import Derived.Shelf.RegionOpen
import Derived.WalkKit
import Derived.OwnWalkIn
import Derived.TacticsInMore
import Derived.LoopNIn
import Derived.LoopIn
import Derived.Maps.AppendAt
import Derived.StillTailTactics
import Derived.Lib.Hide
import Derived.Lib.LazyBuf
import Derived.Outline
import Derived.Deep.RegionWith
import Derived.Deep.RegionLaw
import Derived.Deep.AppendLies
import Derived.CallsIn

import Derived.Lib.Bytes
import Derived.Deep.DeepCutAuto
import Derived.Lib.SmallJoins
import Derived.Laws.EntriesVeiled
import Derived.Deep.RegionHeld3
import Derived.BigRegion
import Derived.BigQuiet
import Derived.Test.YtdbnmccflbkcoaaPMrg
import Derived.Test.YtdbnmccflbkcoaaPSm
import Derived.Test.YtdbnmccflbkcoaaQAx7
import Derived.Test.YtdbnmccflbkcoaaQAx8
import Derived.Test.YtdbnmccflbkcoaaGBytes
import Derived.Test.YtdbnmccflbkcoaaGAlive
namespace Go.Proofs.Ytdbnmccflbkcoaa.QA
open Go.RowKit Go.Shelf Go.Proofs.YtdbnmccflbkcoaaW.PrintWords Go.Proofs.YtdbnmccflbkcoaaW.PrintLast Go.Proofs.YtdbnmccflbkcoaaW.PrintMore
attribute [local go_sem] max2_int min2_int max_two min_two max_three min_three max_four min_four   -- for this text's walks alone
set_option linter.unusedVariables false
set_option linter.unusedSimpArgs false
/-! ### what EventOwn writes: bytes of rows of its own -/
/-- from w0 to w only bytes of rows that are no older than B were written, and things were made. -/
structure Mut (B : Nat) (w0 w : World) : Prop where
  below : Below B w0 w
  evs : ∀ (k : Nat) (cs : Array Value) (f : Nat × Nat), w0.heap[k]? = some (.cells cs 32 f) → w.heap[k]? = w0.heap[k]?
  byt : ∀ (k : Nat) (cur : Array Value), w0.heap[k]? = some (.cells cur 5 (0, 0)) → ∃ cur' : Array Value, w.heap[k]? = some (.cells cur' 5 (0, 0)) ∧ cur'.size = cur.size ∧ ∀ (i : Nat) (z : Int), cur[i]? = some (.int .u8 z) → ∃ z' : Int, cur'[i]? = some (.int .u8 z')
theorem Mut.refl (B : Nat) (w : World) : Mut B w w := ⟨Below.refl _ _, fun _ _ _ _ => rfl, fun _ cur h => ⟨cur, h, rfl, fun _ z h => ⟨z, h⟩⟩⟩
theorem Mut.step {B : Nat} {w0 w w1 : World} (h : Mut B w0 w) (hB : B ≤ w0.heap.size) (hb : Below w.heap.size w w1) : Mut B w0 w1 := by
  have hs := h.below.size
  have hk : ∀ (k : Nat) (o : Obj), w0.heap[k]? = some o → w1.heap[k]? = w.heap[k]? := fun k o ho => hb.block k (by have := (Array.getElem?_eq_some_iff.1 ho).1; omega)
  refine ⟨⟨hb.os.trans h.below.os, hb.tape.trans h.below.tape, hb.output.trans h.below.output, Nat.le_trans hs hb.size, fun k hlt => (hb.block k (by omega)).trans (h.below.block k hlt)⟩, fun k cs f hc => (hk k _ hc).trans (h.evs k cs f hc), fun k cur hc => ?_⟩
  obtain ⟨cur', h1, h2⟩ := h.byt k cur hc
  exact ⟨cur', (hk k _ hc).trans h1, h2⟩
theorem Mut.set {B : Nat} {w0 w : World} (h : Mut B w0 w) {g i : Nat} {cur cur0 : Array Value} (hB : B ≤ g) (h0 : w0.heap[g]? = some (.cells cur0 5 (0, 0))) (hc : w.heap[g]? = some (.cells cur 5 (0, 0))) (z : Int) : Mut B w0 (w.setCell ⟨g, i, none⟩ (.int .u8 z)) := by
  refine ⟨h.below.setCell (p := ⟨g, i, none⟩) hB _, fun k cs f hk => ?_, fun k c hk => ?_⟩
  · have hne : k ≠ g := by rintro rfl; rw [h0] at hk; injection hk with hk; injection hk with _ hk; exact absurd hk (by decide)
    exact (Below.heap_setCell w ⟨g, i, none⟩ _ k hne).trans (h.evs k cs f hk)
  · obtain ⟨cur', h1, h2, h3⟩ := h.byt k c hk
    by_cases hkg : k = g
    · subst hkg
      rw [hc] at h1
      injection h1 with h1
      injection h1 with h1
      subst h1
      refine ⟨cur.setIfInBounds i (.int .u8 z), heap_setCell_same w k i cur 5 _ hc, by rw [Array.size_setIfInBounds]; exact h2, fun j y hj => ?_⟩
      obtain ⟨z', hz'⟩ := h3 j y hj
      rw [Array.getElem?_setIfInBounds]
      split
      · next e =>
        subst e
        rw [if_pos (Array.getElem?_eq_some_iff.1 hz').1]
        exact ⟨z, rfl⟩
      · exact ⟨z', hz'⟩
    · exact ⟨cur', (Below.heap_setCell w ⟨g, i, none⟩ _ k hkg).trans h1, h2, h3⟩
theorem set_size (w : World) (p : Addr) (v : Value) : (w.setCell p v).heap.size = w.heap.size := by simp [World.setCell]
theorem set_far {w : World} {p q : Addr} {u v : Value} (h : w.cell? q = some u) (hne : q.block ≠ p.block) : (w.setCell p v).cell? q = some u := (World.cell?_of_block (Below.heap_setCell w p v q.block hne)).trans h
/-- a byte of a row of one's own: it can be read and written. -/
theorem Mut.byte {B : Nat} {w0 w : World} (h : Mut B w0 w) {A : Option Addr} {n c : Nat} {xs : List Int} (ho : w0.ownsRow B 5 1 (.slice A n c) n (nums .u8 xs)) {i : Nat} (hi : i < n) :
    ∃ (ad : Addr) (z : Int), A = some ad ∧ w.cell? (ad.add i) = some (.int .u8 z) ∧ w.frozen? (ad.add i) = false ∧ ad.block < w0.heap.size ∧ (ad.add i).block = ad.block ∧ ∀ z', Mut B w0 (w.setCell (ad.add i) (.int .u8 z')) := by
  obtain ⟨hl, hr⟩ := ho
  rcases hr with ⟨he, h0⟩ | ⟨g, cap, cur, he, hg, hh, hn, _, hsz, htk⟩
  · omega
  · injection he with he _ _
    subst he
    have hxl : xs.length = n := by simpa [nums] using hl
    have hci : cur[i]? = some (.int .u8 (xs[i]'(by omega))) := by
      have h1 : (cur.toList.take (n * 1))[i]? = (nums .u8 xs)[i]? := by rw [htk]
      rw [List.getElem?_take, if_pos (by omega), Array.getElem?_toList] at h1
      rw [h1]
      simp [nums, List.getElem?_eq_getElem (show i < xs.length by omega)]
    obtain ⟨cur', h1, h2, h3⟩ := h.byt g cur hh
    obtain ⟨z, hz⟩ := h3 i _ hci
    refine ⟨⟨g, 0, none⟩, z, rfl, ?_, ?_, (Array.getElem?_eq_some_iff.1 hh).1, by rw [add_plain], fun z' => ?_⟩
    · rw [add_plain]
      exact (blk_cell h1 i).trans hz
    · rw [add_plain]
      simp [World.frozen?, h1]
    · rw [add_plain]
      exact h.set hg hh h1 z'
/-- an event of the merged ones, its bytes a row of one's own. -/
theorem Mut.event {B : Nat} {w0 w : World} (h : Mut B w0 w) {A : Option Addr} {n c : Nat} {xs : List S32} (hR : Kd.R k32 32 w0 B (fun _ => True) (.slice A n c) xs) (x : Nat) (hx : x < n) :
    ∃ (ad : Addr) (A2 : Option Addr) (c2 : Nat) (y : S32), A = some ad ∧ w.cell? (ad.add (x * 3)) = some (.int .i64 y.f0) ∧ w.cell? ⟨(ad.add (x * 3)).block, (ad.add (x * 3)).off + 1, none⟩ = some (.int .i64 y.f1) ∧ w.cell? ⟨(ad.add (x * 3)).block, (ad.add (x * 3)).off + 2, none⟩ = some (.slice A2 y.f2.length c2) ∧
      w0.ownsRow B 5 1 (.slice A2 y.f2.length c2) y.f2.length (nums .u8 y.f2) := by
  obtain ⟨inner, ho⟩ := Kd.R_own hR
  have hl := (Kd.R_reads' hR).1
  have hA : ∃ ad, A = some ad := by
    cases A with
    | none => 
      rcases ho.2 with ⟨he, h0⟩ | ⟨g, cap, cur, he, _⟩
      · injection he with _ he _; omega
      · cases he
    | some ad => exact ⟨ad, rfl⟩
  obtain ⟨ad, rfl⟩ := hA
  obtain ⟨cs, hcl, hM, hcell⟩ := Kd.R_getA hR z32 (x : Int) (by omega) (by omega)
  obtain ⟨v2, rfl, hR2⟩ := k32_openM hM
  obtain ⟨A2, c2, rfl⟩ := Kd.R_slice hR2
  have hblk : w.heap[ad.block]? = w0.heap[ad.block]? := by
    obtain ⟨cells, hc⟩ := own_typed ho ad.block rfl
    exact h.evs _ _ _ hc
  have hpl : ∃ g, ad = ⟨g, 0, none⟩ := by
    rcases ho.2 with ⟨he, h0⟩ | ⟨g, cap, cur, he, _⟩
    · cases he
    · injection he with he _ _; injection he with he; exact ⟨g, he⟩
  have hmv : ∀ j u, ([.int .i64 (xs.getD x z32).f0, .int .i64 (xs.getD x z32).f1, .slice A2 (xs.getD x z32).f2.length c2] : List Value)[j]? = some u → w.cell? (ad.add (x * 3 + j)) = some u := fun j u hu => by
    have h1 := hcell j u hu
    rw [Int.toNat_natCast] at h1
    obtain ⟨g, rfl⟩ := hpl
    rw [add_plain] at h1 ⊢
    exact (World.cell?_of_block (a := ⟨g, x * 3 + j, none⟩) hblk).trans h1
  refine ⟨ad, A2, c2, xs.getD x z32, rfl, hmv 0 _ rfl, ?_, ?_, ?_⟩
  · rw [← add_field _ _ 1 (by omega)]; exact hmv 1 _ rfl
  · rw [← add_field _ _ 2 (by omega)]; exact hmv 2 _ rfl
  · exact Kd.own_of_R hR2
/-- bytes behind bytes of one's own -/
theorem append_bytes {W : World} (base : Nat) (v : Value) (xs ys : List Int) (A : Option Addr) (m c : Nat) (HO : W.ownsRow base 5 1 v xs.length (nums .u8 xs)) (HR : ReadsInt W .u8 A m ys) (hbase : base ≤ W.heap.size) (hl : xs.length + m ≤ 140737488355328) (ty : TypeId) :
    ∃ v1 w1, (Builtin.append_ #[26, 26] ty #[v, .slice A m c]).run Try.prog W = .ok v1 w1 ∧ w1.ownsRow base 5 1 v1 (xs ++ ys).length (nums .u8 (xs ++ ys)) ∧ W.grownBy w1 v.ownBlock := by
  obtain ⟨i0, hi, hzz⟩ := Option.map_eq_some_iff.1 info5
  simp only [Prod.mk.injEq] at hzz
  obtain ⟨hz0, hz1, hz2⟩ := hzz
  have hm : ys.length = m := HR.1
  rcases A with _ | ad
  · have h0 : m = 0 := by
      rcases Nat.eq_zero_or_pos m with h0 | h0
      · exact h0
      · obtain ⟨ad, h, _⟩ := HR.2.2 h0
        cases h
    subst h0
    obtain rfl : ys = [] := List.eq_nil_of_length_eq_zero hm
    refine ⟨v, W, ?_, by simpa using HO, World.grownBy.refl W _⟩
    rcases HO.2 with ⟨rfl, hn⟩ | ⟨g, cap, cur, rfl, _, _, hnc, _⟩
    · simp [Builtin.append_, run_underlying Try.underlying26, sizeOf, typeInfo, hi, Builtin.lenOf, Builtin.firstCells]
    · simp [Builtin.append_, run_underlying Try.underlying26, sizeOf, typeInfo, hi, Builtin.lenOf, Builtin.firstCells, hnc, storeCells]
  · have hcells : ∀ j u, (nums .u8 ys)[j]? = some u → W.cell? (ad.add j) = some u := by
      intro j u hu
      have hj : j < ys.length := by
        rcases Nat.lt_or_ge j ys.length with h | h
        · exact h
        · simp [nums, List.getElem?_eq_none h] at hu
      obtain ⟨ad', h', hc⟩ := HR.2.2 (by omega)
      injection h' with h'
      subst h'
      have := hc j (by omega)
      simp [nums, List.getElem?_eq_getElem hj] at hu
      subst hu
      rw [this]
      simp [List.getD_eq_getElem?_getD, List.getElem?_eq_getElem hj]
    obtain ⟨v1, w1, hr, h2, h3, _, h5⟩ := run_append_own_at (P := Try.prog) (w := W) base 26 ty 5 i0 (.int .u8 0) 1 1 Try.underlying26 hi hz0 hz1 hz2 rfl (by omega) v xs.length (nums .u8 xs) HO ad m c (nums .u8 ys) (by simp [nums, hm]) hcells
      (by intro u hu; simp only [nums, List.mem_map] at hu; obtain ⟨q, _, rfl⟩ := hu; rfl) (by simp only [maxLen]; omega) (by omega) hbase
    exact ⟨v1, w1, hr, by simpa [nums, hm] using h2, h3⟩
/-- an event behind events of one's own -/
theorem append_event {W : World} (base : Nat) (v : Value) (xs : List S32) (p : S32) (cs : List Value) (ad : Addr) (c : Nat) (HO : Kd.R k32 32 W base (fun _ => True) v xs) (hp : k32.M W base (fun k => True ∧ some k ≠ v.ownBlock) p cs) (hnews : ∀ j u, cs[j]? = some u → W.cell? (ad.add j) = some u) (hbase : base ≤ W.heap.size) (hlen : (xs.length + 1) * 40 ≤ 140737488355328) (ty : TypeId) :
    ∃ v1 w1, (Builtin.append_ #[22, 22] ty #[v, .slice (some ad) 1 c]).run Try.prog W = .ok v1 w1 ∧ Kd.R k32 32 w1 base (fun _ => True) v1 (xs ++ [p]) ∧ W.grownBy w1 v.ownBlock := by
  obtain ⟨i0, hi, hzz⟩ := Option.map_eq_some_iff.1 info32
  simp only [Prod.mk.injEq] at hzz
  obtain ⟨hz0, hz1, hz2⟩ := hzz
  have hkm : xs.length + 1 ≤ 140737488355328 := Nat.le_trans (Nat.le_mul_of_pos_right _ (by decide)) hlen
  obtain ⟨h0, inner, hown, hr⟩ := HO
  have hcl := k32.K_len (k32.K_of_M hp)
  obtain ⟨v1, w1, hrun, h2, h3, _, h5⟩ := run_append_own_at (P := Try.prog) (w := W) base 22 ty 32 i0 _ k32.sz 40 Try.underlying22 hi hz0 hz1 hz2 rfl (by decide) v xs.length inner hown ad 1 c cs (by rw [hcl, Nat.one_mul]) hnews (k32.K_one (k32.K_of_M hp)) (by simp only [maxLen]; omega) hlen hbase
  exact ⟨v1, w1, hrun, Kd.R_appended h0 hr hp (fun k hk => hk) (fun _ _ => trivial) h2 h3 (h5.imp id (fun e => ⟨_, e, Nat.le_refl _⟩)), h3⟩
/-- an append whose run is known, in a region that draws -/
theorem step_append_run3 {P : Program} {ops : Array Oper} {o : Oper} {a : Act} {W : World} {Kc : Act → World → Prop} {Q : Exit → Act → World → Prop} (hw : Region.wanted o (yielded ops a.tmps) = true) (s x : Operand) (t : TypeId)
    (ho : o.op = .call { callee := .builtin .append, args := #[s, x], argTypes := #[t, t] }) (vs vx : Value) (hs : a.eval s = vs) (hx : a.eval x = vx) (v1 : Value) (w1 : World) (hr : (Builtin.append_ #[t, t] o.type #[vs, vx]).run P W = .ok v1 w1)
    (h : Kc (a.put o.dst v1) w1) : if Region.wanted o (yielded ops a.tmps) = true then Oper.wp P o a W Kc Q else Kc (a.put o.dst undef) W := by
  rw [if_pos hw]
  unfold Oper.wp execOp
  simp only [ho, resolve, invoke, builtin, Sem.run_bind, Sem.run_pure, Result.andThen_ok, List.map_toArray, List.map_cons, List.map_nil, hs, hx, hr]
  exact h
theorem small_take {l : List S32} (h : small l) (n : Nat) : small (l.take n) := by
  have e : l.take n ++ l.drop n = l := List.take_append_drop n l
  unfold small at h ⊢
  rw [← e, List.map_append, List.sum_append] at h
  omega
end Go.Proofs.Ytdbnmccflbkcoaa.QA
