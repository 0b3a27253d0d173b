import Derived.RangeFuncNested
import Derived.RangeFuncBound
import Derived.RangeFuncCalls
import Derived.RangeFuncLeaves
import Derived.Shelf.Abstract
import Derived.Shelf.RegionOpen
import Derived.WalkKit
import Derived.OwnWalkIn
import Derived.TacticsInMore
import Derived.LoopNIn
import Derived.LoopIn
import Derived.Maps.AppendAt
import Derived.StillTailTactics
import Derived.Lib.Hide
import Derived.Lib.LazyBuf
import Derived.Outline
import Derived.Deep.RegionWith
import Derived.Deep.RegionLaw
import Derived.Deep.AppendLies
import Derived.CallsIn

import Derived.Lib.Bytes
import Derived.Deep.DeepCutAuto
import Derived.Lib.SmallJoins
import Derived.Laws.EntriesVeiled
import Derived.Deep.RegionHeld3
import Derived.BigRegion
import Derived.BigQuiet
import Derived.Test.YtefippbcgdfnbaaPGet
import Derived.Test.YtefippbcgdfnbaaGAlive
import Derived.Test.YtefippbcgdfnbaaQAx26
import Derived.Test.YtefippbcgdfnbaaQAx12
import Derived.Test.YtefippbcgdfnbaaQAx20
import Derived.Test.YtefippbcgdfnbaaQAx21
import Derived.Test.YtefippbcgdfnbaaQAx22
namespace Go.Proofs.Ytefippbcgdfnbaa.QA
open Go.RowKit Go.Shelf Go.Proofs.YtefippbcgdfnbaaW.PrintWords Go.Proofs.YtefippbcgdfnbaaW.PrintLast Go.Proofs.YtefippbcgdfnbaaW.PrintMore
attribute [local go_sem] max2_int min2_int max_two min_two max_three min_three max_four min_four   -- for this text's walks alone
set_option linter.unusedVariables false
set_option linter.unusedSimpArgs false
/-! ### the document's reader in memory -/
theorem append_bytes {W : World} (base : Nat) (v : Value) (xs ys : List Int) (A : Option Addr) (m c : Nat) (HO : W.ownsRow base 5 1 v xs.length (nums .u8 xs)) (HR : ReadsInt W .u8 A m ys) (hbase : base ≤ W.heap.size) (hl : xs.length + m ≤ 140737488355328) (ty : TypeId) :
    ∃ v1 w1, (Builtin.append_ #[25, 25] ty #[v, .slice A m c]).run Try.prog W = .ok v1 w1 ∧ w1.ownsRow base 5 1 v1 (xs ++ ys).length (nums .u8 (xs ++ ys)) ∧ W.grownBy w1 v.ownBlock := by
  obtain ⟨i0, hi, hzz⟩ := Option.map_eq_some_iff.1 info5
  simp only [Prod.mk.injEq] at hzz
  obtain ⟨hz0, hz1, hz2⟩ := hzz
  have hm : ys.length = m := HR.1
  rcases A with _ | ad
  · have h0 : m = 0 := by
      rcases Nat.eq_zero_or_pos m with h0 | h0
      · exact h0
      · obtain ⟨ad, h, _⟩ := HR.2.2 h0
        cases h
    subst h0
    obtain rfl : ys = [] := List.eq_nil_of_length_eq_zero hm
    refine ⟨v, W, ?_, by simpa using HO, World.grownBy.refl W _⟩
    rcases HO.2 with ⟨rfl, hn⟩ | ⟨g, cap, cur, rfl, _, _, hnc, _⟩
    · simp [Builtin.append_, run_underlying Try.underlying25, sizeOf, typeInfo, hi, Builtin.lenOf, Builtin.firstCells]
    · simp [Builtin.append_, run_underlying Try.underlying25, sizeOf, typeInfo, hi, Builtin.lenOf, Builtin.firstCells, hnc, storeCells]
  · have hcells : ∀ j u, (nums .u8 ys)[j]? = some u → W.cell? (ad.add j) = some u := by
      intro j u hu
      have hj : j < ys.length := by
        rcases Nat.lt_or_ge j ys.length with h | h
        · exact h
        · simp [nums, List.getElem?_eq_none h] at hu
      obtain ⟨ad', h', hc⟩ := HR.2.2 (by omega)
      injection h' with h'
      subst h'
      have := hc j (by omega)
      simp [nums, List.getElem?_eq_getElem hj] at hu
      subst hu
      rw [this]
      simp [List.getD_eq_getElem?_getD, List.getElem?_eq_getElem hj]
    obtain ⟨v1, w1, hr, h2, h3, _, h5⟩ := run_append_own_at (P := Try.prog) (w := W) base 25 ty 5 i0 (.int .u8 0) 1 1 Try.underlying25 hi hz0 hz1 hz2 rfl (by omega) v xs.length (nums .u8 xs) HO ad m c (nums .u8 ys) (by simp [nums, hm]) hcells
      (by intro u hu; simp only [nums, List.mem_map] at hu; obtain ⟨q, _, rfl⟩ := hu; rfl) (by simp only [maxLen]; omega) (by omega) hbase
    exact ⟨v1, w1, hr, by simpa [nums, hm] using h2, h3⟩
theorem append_event {W : World} (base : Nat) (v : Value) (xs : List S43) (p : S43) (cs : List Value) (ad : Addr) (c : Nat) (HO : Kd.R k43 43 W base (fun _ => True) v xs) (hp : k43.M W base (fun k => True ∧ some k ≠ v.ownBlock) p cs) (hnews : ∀ j u, cs[j]? = some u → W.cell? (ad.add j) = some u) (hbase : base ≤ W.heap.size) (hlen : (xs.length + 1) * 40 ≤ 140737488355328) (ty : TypeId) :
    ∃ v1 w1, (Builtin.append_ #[22, 22] ty #[v, .slice (some ad) 1 c]).run Try.prog W = .ok v1 w1 ∧ Kd.R k43 43 w1 base (fun _ => True) v1 (xs ++ [p]) ∧ W.grownBy w1 v.ownBlock := by
  obtain ⟨i0, hi, hzz⟩ := Option.map_eq_some_iff.1 info43
  simp only [Prod.mk.injEq] at hzz
  obtain ⟨hz0, hz1, hz2⟩ := hzz
  have hkm : xs.length + 1 ≤ 140737488355328 := Nat.le_trans (Nat.le_mul_of_pos_right _ (by decide)) hlen
  obtain ⟨h0, inner, hown, hr⟩ := HO
  have hcl := k43.K_len (k43.K_of_M hp)
  obtain ⟨v1, w1, hrun, h2, h3, _, h5⟩ := run_append_own_at (P := Try.prog) (w := W) base 22 ty 43 i0 _ k43.sz 40 Try.underlying22 hi hz0 hz1 hz2 rfl (by decide) v xs.length inner hown ad 1 c cs (by rw [hcl, Nat.one_mul]) hnews (k43.K_one (k43.K_of_M hp)) (by simp only [maxLen]; omega) hlen hbase
  exact ⟨v1, w1, hrun, Kd.R_appended h0 hr hp (fun k hk => hk) (fun _ _ => trivial) h2 h3 (h5.imp id (fun e => ⟨_, e, Nat.le_refl _⟩)), h3⟩
theorem step_append_run3 {P : Program} {ops : Array Oper} {o : Oper} {a : Act} {W : World} {Kc : Act → World → Prop} {Q : Exit → Act → World → Prop} (hw : Region.wanted o (yielded ops a.tmps) = true) (s x : Operand) (t : TypeId)
    (ho : o.op = .call { callee := .builtin .append, args := #[s, x], argTypes := #[t, t] }) (vs vx : Value) (hs : a.eval s = vs) (hx : a.eval x = vx) (v1 : Value) (w1 : World) (hr : (Builtin.append_ #[t, t] o.type #[vs, vx]).run P W = .ok v1 w1)
    (h : Kc (a.put o.dst v1) w1) : if Region.wanted o (yielded ops a.tmps) = true then Oper.wp P o a W Kc Q else Kc (a.put o.dst undef) W := by
  rw [if_pos hw]
  unfold Oper.wp execOp
  simp only [ho, resolve, invoke, builtin, Sem.run_bind, Sem.run_pure, Result.andThen_ok, List.map_toArray, List.map_cons, List.map_nil, hs, hx, hr]
  exact h

def Rdr (W : World) (B : Nat) (A : Option Addr) (n c : Nat) (a : Int) (last : Int) (all : Nat) (v : Value) (fin : Bool) : Prop :=
  W.heap[B]? = some (.cells #[.slice A n c, .int .i64 a, .int .i64 last, .int .u64 (all : Int), v, .bool fin] 54 (0, 0))
section
variable {W : World} {B n c all : Nat} {A : Option Addr} {a last : Int} {v : Value} {f : Bool}
theorem Rdr.cells (h : Rdr W B A n c a last all v f) : W.cell? ⟨B, 0, none⟩ = some (.slice A n c) ∧ W.cell? ⟨B, 1, none⟩ = some (.int .i64 a) ∧ W.cell? ⟨B, 2, none⟩ = some (.int .i64 last) ∧ W.cell? ⟨B, 3, none⟩ = some (.int .u64 (all : Int)) ∧ W.cell? ⟨B, 4, none⟩ = some v ∧ W.cell? ⟨B, 5, none⟩ = some (.bool f) :=
  ⟨(blk_cell h 0).trans rfl, (blk_cell h 1).trans rfl, (blk_cell h 2).trans rfl, (blk_cell h 3).trans rfl, (blk_cell h 4).trans rfl, (blk_cell h 5).trans rfl⟩
theorem Rdr.free (h : Rdr W B A n c a last all v f) (i : Nat) : W.frozen? ⟨B, i, none⟩ = false := frozen_of_row W B i _ 54 h
theorem Rdr.lt (h : Rdr W B A n c a last all v f) : B < W.heap.size := (Array.getElem?_eq_some_iff.1 h).1
theorem Rdr.set1 (h : Rdr W B A n c a last all v f) (x : Int) : Rdr (W.setCell ⟨B, 1, none⟩ (.int .i64 x)) B A n c x last all v f := (heap_setCell_same W B 1 _ 54 _ h).trans rfl
theorem Rdr.set2 (h : Rdr W B A n c a last all v f) (x : Int) : Rdr (W.setCell ⟨B, 2, none⟩ (.int .i64 x)) B A n c a x all v f := (heap_setCell_same W B 2 _ 54 _ h).trans rfl
theorem Rdr.set3 (h : Rdr W B A n c a last all v f) (x : Nat) : Rdr (W.setCell ⟨B, 3, none⟩ (.int .u64 (x : Int))) B A n c a last x v f := (heap_setCell_same W B 3 _ 54 _ h).trans rfl
theorem Rdr.set4 (h : Rdr W B A n c a last all v f) (x : Value) : Rdr (W.setCell ⟨B, 4, none⟩ x) B A n c a last all x f := (heap_setCell_same W B 4 _ 54 _ h).trans rfl
theorem Rdr.set5 (h : Rdr W B A n c a last all v f) (x : Bool) : Rdr (W.setCell ⟨B, 5, none⟩ (.bool x)) B A n c a last all v x := (heap_setCell_same W B 5 _ 54 _ h).trans rfl
theorem Rdr.move {W1 : World} (h : Rdr W B A n c a last all v f) (e : W1.heap[B]? = W.heap[B]?) : Rdr W1 B A n c a last all v f := e.trans h
theorem evs_set {base : Nat} {l : List S43} (hR : Kd.R k43 43 W base (fun _ => True) v l) {w : Value} {f' : Bool} (h : Rdr W B A n c a last all w f') (i : Nat) (u : Value) : Kd.R k43 43 (W.setCell ⟨B, i, none⟩ u) base (fun _ => True) v l :=
  Kd.R_mono (Kd.R_far (p := ⟨B, i, none⟩) (Kd.R_types hR h (by decide)) (fun k hk => hk.2) u) (fun _ _ => trivial)
end
def Stt (w0 W : World) (B : Nat) (A : Option Addr) (c : Nat) (b : List Int) (a : Nat) (last : Int) (all : Nat) (evs : List S43) (fin : Bool) : Prop :=
  ∃ v, Rdr W B A b.length c (a : Int) last all v fin ∧ Kd.R k43 43 W w0.heap.size (fun _ => True) v evs ∧ Below w0.heap.size w0 W ∧ w0.heap.size ≤ B
/-! ### the document's event: the memory of its append -/
theorem ev_mem (b : List Int) (w0 : World) (ad : Addr) (c : Nat) (hC : Kd.C (Kd.int .u8) w0 (some ad) b.length b) (hc : b.length ≤ c) (wc : World) (B a : Nat) (nl : Int) (sm : Nat) (evs : List S43) (Av : Option Addr) (cv : Nat) (hwB : w0.heap.size ≤ B)
    (hr5 : Rdr wc B (some ad) b.length c (a : Int) nl sm (.slice Av evs.length cv) false) (hRv5 : Kd.R k43 43 wc w0.heap.size (fun _ => True) (.slice Av evs.length cv) evs) (hBw5 : Below w0.heap.size w0 wc) (q n e3 : Nat) (t1 : Int) (data : List Int) (hE3 : e3 = q + n) (hDL : data.length = n) (hDA : data = (b.take (q + n)).drop q) (hfit : q + n ≤ b.length) (hn1 : n ≤ 65536) (hev : evs.length ≤ 4096) :
    ∃ (A3 : Option Addr) (c3 : Nat) (A8 : Option Addr) (c8 : Nat) (w8 : World) (A9 : Option Addr) (m9 c9 : Nat) (w9 : World),
      (∀ W : World, (Instr.slice 25 (.slice (some ad) b.length c) (some (.int .i64 (q : Int))) (some (.int .i64 (e3 : Int))) none).run Try.prog W = .ok (.slice A3 n c3) W) ∧
      (Builtin.append_ #[25, 25] 25 #[.slice (some ⟨wc.heap.size, 0, none⟩) 0 0, .slice A3 n c3]).run Try.prog (wc.alloc (.cells #[] 5)).drew = .ok (.slice A8 n c8) w8 ∧
      (Builtin.append_ #[22, 22] 22 #[.slice Av evs.length cv, .slice (some ⟨w8.heap.size, 0, none⟩) 1 1]).run Try.prog (w8.alloc (.cells #[.int .i64 t1, .int .i64 nl, .slice A8 n c8] 43)) = .ok (.slice A9 m9 c9) w9 ∧
      Rdr (wc.alloc (.cells #[] 5)).drew B (some ad) b.length c (a : Int) nl sm (.slice Av evs.length cv) false ∧ Rdr w8 B (some ad) b.length c (a : Int) nl sm (.slice Av evs.length cv) false ∧
      Rdr (w8.alloc (.cells #[.int .i64 t1, .int .i64 nl, .slice A8 n c8] 43)) B (some ad) b.length c (a : Int) nl sm (.slice Av evs.length cv) false ∧ Rdr w9 B (some ad) b.length c (a : Int) nl sm (.slice Av evs.length cv) false ∧
      Rdr (w9.setCell ⟨B, 4, none⟩ (.slice A9 m9 c9)) B (some ad) b.length c (a : Int) nl sm (.slice A9 m9 c9) false ∧ Kd.R k43 43 (w9.setCell ⟨B, 4, none⟩ (.slice A9 m9 c9)) w0.heap.size (fun _ => True) (.slice A9 m9 c9) (evs ++ [⟨t1, nl, data⟩]) ∧ Below w0.heap.size w0 (w9.setCell ⟨B, 4, none⟩ (.slice A9 m9 c9)) := by
  obtain ⟨i0, hi0, hisz⟩ := Option.map_eq_some_iff.1 (show (Try.prog.info? 5).map (·.size) = some 1 by kernel_rfl)
  have hcutf := YtefippbcgdfnbaaW.PrintWords.cut_mid (P := Try.prog) 25 5 .i64 .i64 Try.underlying25 hi0 1 hisz (some ad) b.length c (q : Int) (e3 : Int) (by omega) (by have := hE3; omega) (by have := hE3; omega) hc
  simp only [Int.toNat_natCast] at hcutf
  rw [show e3 - q = n by have := hE3; omega] at hcutf
  have hmid := Kd.C_mid (lo := q) (hi := e3) hC (by have := hE3; omega) (by have := hE3; omega) hc
  rw [show (b.take e3).drop q = data by rw [hE3, hDA], hDL] at hmid
  obtain ⟨A3, hA3⟩ : ∃ A3, A3 = (if c = q then some ad else (some ad).map (·.add (q * 1))) := ⟨_, rfl⟩
  obtain ⟨c3, hc3⟩ : ∃ c3, c3 = c - q := ⟨_, rfl⟩
  rw [← hA3, ← hc3] at hcutf
  replace hmid : (Kd.int .u8).C w0 A3 n data := by rw [hA3]; exact hmid
  have hsz := hr5.lt
  have hBl := hBw5.size
  -- the bytes
  obtain ⟨X, hX⟩ : ∃ X, X = (wc.alloc (.cells #[] 5)).drew := ⟨_, rfl⟩
  have hbX : Below wc.heap.size wc X := by rw [hX]; exact below_drew1 ((Below.refl _ wc).alloc (Nat.le_refl _) _)
  have hXn : X.heap[wc.heap.size]? = some (.cells #[] 5 (0, 0)) := by rw [hX]; exact World.alloc_heap_new wc _
  have hsX : X.heap.size = wc.heap.size + 1 := by rw [hX]; simp [World.drew]
  have hoX : X.ownsRow wc.heap.size 5 1 (.slice (some ⟨wc.heap.size, 0, none⟩) 0 0) ([] : List Int).length (nums .u8 []) :=
    ⟨rfl, .inr ⟨wc.heap.size, 0, #[], rfl, Nat.le_refl _, hXn, Nat.le_refl _, Nat.zero_le _, rfl, rfl⟩⟩
  have hBX := below_step hBw5 hbX
  obtain ⟨v8, w8, happ8, ho8, hg8⟩ := append_bytes wc.heap.size _ [] data A3 n c3 hoX (Kd.reads_of_C (d := (0 : Int)) (h1 := fun _ => rfl) (Kd.C_below hmid hBX)) (by omega) (by simp; omega) 25
  simp only [List.nil_append] at ho8
  have ho8' := ho8
  rw [hDL] at ho8'
  obtain ⟨A8, c8, rfl⟩ := own_slice ho8'
  have hb8 : ∀ k, (Value.slice A8 n c8).ownBlock = some k → wc.heap.size ≤ k := own_base ho8'
  -- the event
  obtain ⟨Z, hZ⟩ : ∃ Z, Z = w8.alloc (.cells #[.int .i64 t1, .int .i64 nl, .slice A8 n c8] 43) := ⟨_, rfl⟩
  have hbZ : Below w8.heap.size w8 Z := by rw [hZ]; exact (Below.refl _ w8).alloc (Nat.le_refl _) _
  have hnZ : Z.heap[w8.heap.size]? = some (.cells #[.int .i64 t1, .int .i64 nl, .slice A8 n c8] 43 (0, 0)) := by rw [hZ]; exact World.alloc_heap_new w8 _
  have z8 := hg8.size
  have zZ := hbZ.size
  obtain ⟨inner, hown⟩ := Kd.R_own hRv5
  have hLT : ∀ k, (Value.slice Av evs.length cv).ownBlock = some k → w0.heap.size ≤ k ∧ k < wc.heap.size ∧ k ≠ B := fun k hk => ⟨own_base hown k hk, own_lt hown k hk, fun e => by
    subst e
    obtain ⟨c1, h1⟩ := own_typed hown k hk
    have h2 : wc.heap[k]? = _ := hr5
    rw [h1] at h2
    injection h2 with h2
    injection h2 with _ h2
    exact absurd h2 (by decide)⟩
  have hRZ : Kd.R k43 43 Z w0.heap.size (fun _ => True) (.slice Av evs.length cv) evs := by
    have h3 := Kd.R_below (Kd.R_bound hRv5) hbX
    exact Kd.R_below (Kd.R_mono (Kd.R_grown h3 hg8 (fun k hk e => by injection e with e; have := hk.2.2.1; have e : k = wc.heap.size := e; omega)) (fun _ _ => trivial)) hbZ
  have hbWZ : Below w0.heap.size w0 Z := below_step (hBX.grown hg8 hBX.size (fun k hk => by injection hk with hk; have hk : wc.heap.size = k := hk; omega)) hbZ
  have hM : k43.M Z w0.heap.size (fun k => True ∧ some k ≠ (Value.slice Av evs.length cv).ownBlock) ⟨t1, nl, data⟩ [.int .i64 t1, .int .i64 nl, .slice A8 n c8] := k43_mkM _ _ _ ⟨t1, nl, data⟩ (Kd.R_lower (base := wc.heap.size) (Kd.R_below (Kd.R_of_own (enc := Value.int .u8) (h1 := fun _ => rfl) (ok := fun k => True ∧ some k ≠ (Value.slice Av evs.length cv).ownBlock) ho8 (fun k hk => ⟨trivial, fun e => by have h5 := hb8 k hk; have h6 := (hLT k e.symm).2.1; omega⟩)) hbZ) (by omega))
  obtain ⟨v9, w9, happ9, hR9, hg9⟩ := append_event w0.heap.size (.slice Av evs.length cv) evs ⟨t1, nl, data⟩ _ ⟨w8.heap.size, 0, none⟩ 1 hRZ hM (fun j u hu => by rw [add_plain]; exact (blk_cell hnZ j).trans (by simpa using hu)) hbWZ.size (by omega) 22
  have rX : Rdr X B (some ad) b.length c (a : Int) nl sm (.slice Av evs.length cv) false := hr5.move (hbX.block _ hsz)
  have r8 : Rdr w8 B (some ad) b.length c (a : Int) nl sm (.slice Av evs.length cv) false := rX.move (hg8.block _ (by omega) (fun e => by injection e with e; have e : B = wc.heap.size := e; omega))
  have rZ : Rdr Z B (some ad) b.length c (a : Int) nl sm (.slice Av evs.length cv) false := r8.move (hbZ.block _ (by omega))
  have r9 : Rdr w9 B (some ad) b.length c (a : Int) nl sm (.slice Av evs.length cv) false := rZ.move (hg9.block _ (by omega) (fun e => (hLT B e.symm).2.2 rfl))
  have r10 := r9.set4 v9
  have hFR := evs_set hR9 r9 4 v9
  have hFB := (hbWZ.grown hg9 hbWZ.size (fun k hk => (hLT k hk).1)).setCell (p := ⟨B, 4, none⟩) hwB v9
  subst hX hZ
  obtain ⟨A9, c9, rfl⟩ := Kd.R_slice hR9
  exact ⟨A3, c3, A8, c8, w8, A9, _, c9, w9, hcutf, happ8, happ9, rX, r8, rZ, r9, r10, hFR, hFB⟩
/-! ### the document's head and Decode -/
def mg : List Int := [67, 85, 69, 49]
set_option maxRecDepth 100000 in
set_option maxHeartbeats 8000000 in
theorem head_c (b : List Int) (hlen : b.length ≤ 1048576) (w0 : World) (A : Option Addr) (c : Nat) (hC : Kd.C (Kd.int .u8) w0 A b.length b) (hc : b.length ≤ c) (W : World) (B : Nat) (h : Stt w0 W B A c b 0 0 0 [] false) :
    Calls Try.prog 25 #[.pointer (some ⟨B, 0, none⟩)] W fun e W' =>
      (∃ (i : Nat) (er : Int), i < 4 ∧ e = .returned (.tuple #[.int .i64 (i : Int), .int .i64 er]) ∧ (∀ j, j < i → ∃ (hj : j < b.length), b[j] = mg[j]!) ∧ (er = 5 ∧ i = b.length ∨ er = 4 ∧ ∃ (hi : i < b.length), b[i] ≠ mg[i]!) ∧ Below w0.heap.size w0 W') ∨
      (e = .returned (.tuple #[.int .i64 0, .int .i64 0]) ∧ 4 ≤ b.length ∧ (∀ j, j < 4 → ∃ (hj : j < b.length), b[j] = mg[j]!) ∧ Stt w0 W' B A c b 4 0 0 [] false) := by
  obtain ⟨v, hr, hRv, hBw, hwB⟩ := h
  have hbm : Below W.heap.size W (W.alloc (.cells #[.int .u8 67, .int .u8 85, .int .u8 69, .int .u8 49] 5)) := (Below.refl _ W).alloc (Nat.le_refl _) _
  have hmn : (W.alloc (.cells #[.int .u8 67, .int .u8 85, .int .u8 69, .int .u8 49] 5)).heap[W.heap.size]? = some (.cells #[.int .u8 67, .int .u8 85, .int .u8 69, .int .u8 49] 5 (0, 0)) := World.alloc_heap_new W _
  have hmC : (Kd.int .u8).C (W.alloc (.cells #[.int .u8 67, .int .u8 85, .int .u8 69, .int .u8 49] 5)) (some ⟨W.heap.size, 0, none⟩) 4 mg := reads_u8 (xs := mg) (fun j hj => by
    match j, hj with
    | 0, _ => exact (blk_cell hmn 0).trans rfl
    | 1, _ => exact (blk_cell hmn 1).trans rfl
    | 2, _ => exact (blk_cell hmn 2).trans rfl
    | 3, _ => exact (blk_cell hmn 3).trans rfl) (by decide)
  have hr1 : Rdr (W.alloc (.cells #[.int .u8 67, .int .u8 85, .int .u8 69, .int .u8 49] 5)) B A b.length c ((0 : Nat) : Int) 0 0 v false := hr.move (hbm.block _ hr.lt)
  have hRv1 := Kd.R_below hRv hbm
  have hBw1 := below_step hBw hbm
  go_enter Try.func25, Try.ntmps25
  go_upto_region 2 with (fail)
  generalize W.alloc (.cells #[.int .u8 67, .int .u8 85, .int .u8 69, .int .u8 49] 5) = W1 at hmC hr1 hRv1 hBw1 ⊢
  obtain ⟨am, ham⟩ : ∃ am : Addr, am = ⟨W.heap.size, 0, none⟩ := ⟨_, rfl⟩
  rw [← ham] at hmC ⊢
  have HMC := Lib.hid hmC
  have HR := Lib.hid hr1
  have HRV := Lib.hid hRv1
  have HBW := Lib.hid hBw1
  have HC := Lib.hid hC
  clear hr hRv hBw hbm hmn hmC hr1 hRv1 hBw1 hC ham
  go_wp2_with (fail)
  go_loopw [5] (fun s5 wr => ∃ i : Nat, i ≤ 4 ∧ s5 = .int .i64 i ∧ (∀ j, j < i → ∃ (hj : j < b.length), b[j] = mg[j]!) ∧ Below W1.heap.size W1 wr)
    (fun s5 _ => 4 - (intOf s5).toNat)
  case atStart => exact ⟨0, by omega, rfl, fun j hj => by omega, Below.refl _ _⟩
  case round =>
    obtain ⟨i, hi, rfl, hpre, hBr⟩ := hrel
    have hrr := HR.out.move (hBr.block _ HR.out.lt)
    have HRr := Lib.hid hrr
    have HPRE := Lib.hid hpre
    obtain ⟨c0, c1, c2, c3, c4, c5⟩ := hrr.cells
    have hmr := Kd.C_below HMC.out hBr
    by_cases h4 : i < 4
    · have h4' := eq_true (show (i : Int) < 4 by omega)
      have h4'' := eq_true h4
      by_cases hlt : i < b.length
      · have hge := eq_false (show ¬ (b.length : Int) ≤ (i : Int) by omega)
        have hge2 := eq_false (show ¬ b.length ≤ i by omega)
        have hlt' := eq_true hlt
        obtain ⟨ab, hAe, hcb⟩ := Kd.at_int (Kd.C_below (Kd.C_below HC.out HBW.out) hBr) (i : Int) (by omega) (by omega)
        subst hAe
        obtain ⟨am', hAm, hcm⟩ := Kd.at_int hmr (i : Int) (by omega) (by omega)
        injection hAm with hAm
        subst hAm
        rw [Int.toNat_natCast] at hcb hcm
        have e1 : rd b (i : Int) = b[i] := rd_nat hlt
        have e2 : rd mg (i : Int) = mg[i]! := by
          match i, h4 with
          | 0, _ => rfl
          | 1, _ => rfl
          | 2, _ => rfl
          | 3, _ => rfl
        obtain ⟨x, hx⟩ : ∃ x, x = rd b (i : Int) := ⟨_, rfl⟩
        obtain ⟨y, hy⟩ : ∃ y, y = rd mg (i : Int) := ⟨_, rfl⟩
        rw [← hx] at e1 hcb
        rw [← hy] at e2 hcm
        have E1 := Lib.hid e1
        have E2 := Lib.hid e2
        clear hx hy e1 e2
        have d0 : wr.drew.cell? ⟨B, 0, none⟩ = some (.slice (some ab) b.length c) := c0
        have db : wr.drew.cell? (ab.add i) = some (.int .u8 x) := hcb
        have dm : wr.drew.cell? (am.add i) = some (.int .u8 y) := hcm
        go_upto_region 7 with (fail)
        go_region_held3 (fun w' => w'.cell? ⟨B, 0, none⟩ = some (.slice (some ab) b.length c) ∧ w'.cell? (ab.add i) = some (.int .u8 x) ∧ w'.cell? (am.add i) = some (.int .u8 y))
          (exact ⟨d0, db, dm⟩) (fail)
        by_cases hxy : x = y
        · have hne : (x != y) = false := bne_eq_false_iff_eq.mpr hxy
          have HXY := Lib.hid hxy
          have HBr := Lib.hid hBr
          clear hxy hBr hpre c0 c1 c2 c3 c4 c5 hcb hcm d0 db dm
          go_wp2
          go_roundw
          case rel => exact ⟨i + 1, by omega, by go_num, fun j hj => by
            rcases Nat.lt_or_ge j i with hji | hji
            · exact HPRE.out j hji
            · obtain rfl : j = i := by omega
              exact ⟨hlt, by rw [← E1.out, ← E2.out]; exact HXY.out⟩, below_drew1 HBr.out⟩
          case measure => simp [intOf]; omega
        · have hne : (x != y) = true := bne_iff_ne.mpr hxy
          have HXY := Lib.hid hxy
          have HBr := Lib.hid (below_drew1 (below_step HBW.out hBr))
          clear hxy hBr hpre c0 c1 c2 c3 c4 c5 hcb hcm d0 db dm
          go_wp2
          go_ret2
          exact .inl ⟨i, 4, h4, rfl, HPRE.out, .inr ⟨rfl, hlt, by rw [← E1.out, ← E2.out]; exact HXY.out⟩, HBr.out⟩
      · have hge := eq_true (show (b.length : Int) ≤ (i : Int) by omega)
        have hge2 := eq_true (show b.length ≤ i by omega)
        have hib : i = b.length := by
          rcases Nat.lt_or_ge b.length i with h | h
          · obtain ⟨hj, _⟩ := hpre b.length h
            omega
          · omega
        have HIB := Lib.hid hib
        have HBr := Lib.hid (below_step HBW.out hBr)
        clear hib hBr hpre
        go_wp2
        go_ret2
        refine .inl ⟨i, 5, h4, ?_, HPRE.out, .inl ⟨rfl, HIB.out⟩, HBr.out⟩
        rw [HIB.out]
        rfl
    · obtain rfl : i = 4 := by omega
      have h4' := eq_false (show ¬ ((4 : Nat) : Int) < 4 by omega)
      have f1 := hrr.free 1
      have HR2 := Lib.hid (hrr.set1 ((4 : Nat) : Int))
      have HRV2 := Lib.hid (evs_set (Kd.R_below HRV.out hBr) hrr 1 (.int .i64 ((4 : Nat) : Int)))
      have HB2 := Lib.hid ((below_step HBW.out hBr).setCell (p := ⟨B, 1, none⟩) hwB (.int .i64 ((4 : Nat) : Int)))
      clear hBr hpre hrr HRr
      go_wp2
      go_ret2
      exact .inr ⟨rfl, by obtain ⟨h, _⟩ := HPRE.out 3 (by omega); omega, HPRE.out, _, HR2.out, HRV2.out, HB2.out, hwB⟩
end Go.Proofs.Ytefippbcgdfnbaa.QA
