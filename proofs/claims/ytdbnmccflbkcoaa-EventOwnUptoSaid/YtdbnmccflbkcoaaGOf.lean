/- What is proved here: event.Of's function value, for whatever loop body: the events of the direction in their order, or a beginning of them. -/
import Derived.RangeFuncNested
import Derived.RangeFuncBound
import Derived.RangeFuncCalls
import Derived.RangeFuncLeaves
import Derived.Shelf.Abstract
import Derived.Shelf.RegionOpen
import Derived.WalkKit
import Derived.OwnWalkIn
import Derived.TacticsInMore
import Derived.LoopNIn
import Derived.LoopIn
import Derived.Maps.AppendAt
import Derived.Lib.Hide
import Derived.Test.YtdbnmccflbkcoaaQAx0
namespace Go.Proofs.Ytdbnmccflbkcoaa.QA
open Go.RowKit Go.Shelf Go.Proofs.YtdbnmccflbkcoaaW.PrintWords Go.Proofs.YtdbnmccflbkcoaaW.PrintLast Go.Proofs.YtdbnmccflbkcoaaW.PrintMore
attribute [local go_sem] Oper.semAt_some
set_option linter.unusedVariables false
set_option linter.unusedSimpArgs false
/-! ### the events of a slice, with the places of their bytes -/
abbrev Itm := S32 × Option Addr × Nat
def Itm.val (i : Itm) : Value := .agg #[.int .i64 i.1.f0, .int .i64 i.1.f1, .slice i.2.1 i.1.f2.length i.2.2]
theorem choose_list {α β : Type} (l : List α) : ∀ (Q : Nat → α → β → Prop), (∀ j p, l[j]? = some p → ∃ y, Q j p y) → ∃ ys : List (α × β), ys.map (·.1) = l ∧ ∀ j y, ys[j]? = some y → Q j y.1 y.2 := by
  induction l with
  | nil => intro Q _; exact ⟨[], rfl, fun j y h => by simp at h⟩
  | cons a r ih =>
    intro Q h
    obtain ⟨y, hy⟩ := h 0 a rfl
    obtain ⟨ys, e, hq⟩ := ih (fun j => Q (j + 1)) (fun j p hp => h (j + 1) p (by simpa using hp))
    refine ⟨(a, y) :: ys, by simp [e], fun j z hz => ?_⟩
    cases j with
    | zero => simp at hz; subst hz; exact hy
    | succ j => exact hq j z (by simpa using hz)
/-- where item j's cells lie, and its bytes -/
def ItmAt (w : World) (ad : Addr) (j : Nat) (i : Itm) : Prop :=
  w.cell? (ad.add (j * 3)) = some (.int .i64 i.1.f0) ∧ w.cell? ⟨(ad.add (j * 3)).block, (ad.add (j * 3)).off + 1, none⟩ = some (.int .i64 i.1.f1) ∧
    w.cell? ⟨(ad.add (j * 3)).block, (ad.add (j * 3)).off + 2, none⟩ = some (.slice i.2.1 i.1.f2.length i.2.2) ∧ i.1.f2.length ≤ i.2.2 ∧ (Kd.int .u8).C w i.2.1 i.1.f2.length i.1.f2
theorem ItmAt.below {w w' : World} {ad : Addr} {j : Nat} {i : Itm} (h : ItmAt w ad j i) (hb : Below w.heap.size w w') : ItmAt w' ad j i :=
  ⟨pw_cell_below hb h.1, pw_cell_below hb h.2.1, pw_cell_below hb h.2.2.1, h.2.2.2.1, Kd.C_below h.2.2.2.2 hb⟩
theorem items {w : World} {A : Option Addr} {n : Nat} {l : List S32} (h : Kd.C k32 w A n l) : ∃ its : List Itm, its.map (·.1) = l ∧ (0 < n → ∃ ad, A = some ad ∧ ∀ j i, its[j]? = some i → ItmAt w ad j i) := by
  obtain ⟨hl, _, hc⟩ := h
  rcases Nat.eq_zero_or_pos n with h0 | h0
  · subst h0
    obtain rfl : l = [] := List.eq_nil_of_length_eq_zero hl
    exact ⟨[], rfl, fun h => absurd h (by omega)⟩
  · obtain ⟨ad, rfl, hc2⟩ := hc h0
    obtain ⟨ys, e, hq⟩ := choose_list l (fun j (x : S32) (y : Option Addr × Nat) => ItmAt w ad j (x, y)) (fun j p hp => by
      obtain ⟨c, hs, hK, hcell⟩ := hc2 j p hp
      obtain ⟨A2, c2, rfl, l2, g2⟩ := k32_open hK
      have hc' : ∀ i u, ([.int .i64 p.f0, .int .i64 p.f1, .slice A2 p.f2.length c2] : List Value)[i]? = some u → w.cell? (ad.add (j * 3 + i)) = some u := hcell
      exact ⟨(A2, c2), hc' 0 _ rfl, by rw [← add_field _ _ 1 (by omega)]; exact hc' 1 _ rfl, by rw [← add_field _ _ 2 (by omega)]; exact hc' 2 _ rfl, l2, g2⟩)
    exact ⟨ys, e, fun _ => ⟨ad, rfl, hq⟩⟩
/-- those of a direction -/
def those {α : Type} (f : α → Itm) (dir : Int) (its : List α) : List α := its.filter fun i => (f i).1.f0 == dir
theorem those_hit {α : Type} (f : α → Itm) (dir : Int) (pre : List α) {x : α} (h : (f x).1.f0 = dir) : those f dir (pre ++ [x]) = those f dir pre ++ [x] := by simp [those, h]
theorem those_miss {α : Type} (f : α → Itm) (dir : Int) (pre : List α) {x : α} (h : (f x).1.f0 ≠ dir) : those f dir (pre ++ [x]) = those f dir pre := by simp [those, h]
/-- what a round that goes on keeps: what lay below n₀, and the box of the direction -/
def KeepOf (n₀ Bd : Nat) (dir : Int) (W W' : World) : Prop := Below n₀ W W' ∧ (Boxed W Bd 3 (.int .i64 dir) → Boxed W' Bd 3 (.int .i64 dir))
theorem keepOf_t {n₀ Bd : Nat} {dir : Int} {A B C : World} (h : KeepOf n₀ Bd dir A B) (k : KeepOf n₀ Bd dir B C) : KeepOf n₀ Bd dir A C := ⟨h.1.trans k.1, fun x => k.2 (h.2 x)⟩
theorem keepOf_b {n₀ Bd : Nat} {dir : Int} {w : World} (hn : n₀ ≤ w.heap.size) (hb : Bd < w.heap.size) (W : World) (l : Nat) (o o' : Obj) (hl : w.heap.size ≤ l) (h : W.heap[l]? = some o) (h1 : o.isCells = false) (h2 : o.isWalk = false) : KeepOf n₀ Bd dir W (W.putObj l o') :=
  ⟨belowK_b hn W l o o' hl h h1 h2, fun x => x.kept (grownBy_putObj' W l o') (by intro e; cases e; omega)⟩
set_option maxRecDepth 100000 in
set_option maxHeartbeats 4000000 in
/-- the closure of event.Of, for every loop body that keeps what lay below n₀ and the box of the direction -/
theorem of1_in {α : Type} (f : α → Itm) (F : Fence) (n : Nat) (hf : F.fn 29) (hro : F.round = none) (hn : 1 ≤ n) (l Bl Bd n₀ : Nat) (dir : Int) (ad : Addr) (cap : Nat) (its : List α) (hreach : its.length ≤ 9223372036854775806) (hb : ad.block < n₀) (w : World) (hw : w.heap.size ≤ n₀)
    (hits : ∀ j i, its[j]? = some i → ItmAt w ad j (f i)) (J Jx : List α → World → Prop)
    (hY : ∀ pre x W, J pre W → pre.length < its.length → YieldAt F (n - 1) Try.prog l #[Itm.val (f x)] W fun e W' =>
      (e = .returned (.bool true) ∧ J (pre ++ [x]) W' ∧ KeepOf n₀ Bd dir W W') ∨ (e = .returned (.bool false) ∧ Jx (pre ++ [x]) W'))
    (hJ : ∀ pre W o, J pre W → J pre (World.alloc W o))
    (W : World) (hwW : Below w.heap.size w W) (hBl : W.cell? ⟨Bl, 0, none⟩ = some (.slice (some ad) its.length cap)) (hBd : Boxed W Bd 3 (.int .i64 dir)) (h0 : J [] W) :
    CallsIn F n Try.prog 29 #[.func (.yield l) #[] #[], .pointer (some ⟨Bl, 0, none⟩), .pointer (some ⟨Bd, 0, none⟩)] W fun e W' => (∃ v, e = .returned v) ∧
      ((∃ ys, ys = those f dir its ∧ J ys W') ∨ (∃ pre, pre <+: those f dir its ∧ Jx pre W')) := by
  refine callsIn_of_wp Try.func29 rfl hf ?_ hro
  simp only [Try.ntmps29, List.size_toArray, List.length_cons, List.length_nil, Nat.reduceAdd, Nat.reduceSub, Array.replicate_succ, Array.replicate_zero, List.push_toArray, List.append_toArray, List.nil_append, List.cons_append]
  gi_wp2
  gi_loopw [8] (fun i wr => ∃ k : Nat, k ≤ its.length ∧ i = .int .i64 k ∧ J (those f dir (its.take k)) wr ∧ Below w.heap.size w wr ∧ Boxed wr Bd 3 (.int .i64 dir))
    (fun i _ => its.length - (intOf i).toNat)
  case atStart => exact ⟨0, Nat.zero_le _, rfl, h0, hwW, hBd⟩
  case round =>
    obtain ⟨k, hk, rfl, hJs, hnx, hbx⟩ := hrel
    by_cases hlt : k < its.length
    · have hit := (hits k its[k] (List.getElem?_eq_getElem hlt)).below hnx
      obtain ⟨hx0, hx1, hx2, _, _⟩ := hit
      have htk : its.take (k + 1) = its.take k ++ [its[k]] := List.take_succ_eq_append_getElem hlt
      have hcd := hbx.cell
      have hbl := hbx.lt
      have hlen : (those f dir (its.take k)).length < its.length := Nat.lt_of_le_of_lt (List.length_filter_le _ _) (by rw [List.length_take]; omega)
      generalize its[k] = x at hx0 hx1 hx2 htk
      have hyx := fun pre W => hY pre x W
      generalize hfx : f x = y at hx0 hx1 hx2 hyx
      by_cases hd : y.1.f0 = dir
      · have hd1 : (y.1.f0 == dir) = true := beq_iff_eq.mpr hd
        have Hd := Lib.hid (show (f x).1.f0 = dir from hfx ▸ hd)
        clear hd hfx
        have HT := Lib.hid htk
        clear htk
        have hb1 := hbx.alloc (.cells #[Value.int IntKind.i64 y.1.f0, Value.int IntKind.i64 y.1.f1, Value.slice y.2.1 y.1.f2.length y.2.2] 32)
        obtain ⟨fn, tmps, assign, body, hy, hR⟩ := hyx _ _ (hJ _ _ (.cells #[Value.int IntKind.i64 y.1.f0, Value.int IntKind.i64 y.1.f1, Value.slice y.2.1 y.1.f2.length y.2.2] 32) hJs) hlen
        unfold Itm.val at hy
        gi_wp2
        refine hR.mono ?_
        rintro e W3 (⟨rfl, hJ3, hk3⟩ | ⟨rfl, hJx3⟩)
        · have hnx3 : Below w.heap.size w W3 := (hnx.alloc hnx.size _).trans (hk3.1.mono hw)
          have hbx3 := hk3.2 hb1
          gi_wp2
          go_roundw
          case rel => exact ⟨k + 1, by omega, by go_num, by rw [HT.out, those_hit _ _ _ Hd.out]; exact hJ3, hnx3, hbx3⟩
          case measure => simp [intOf]; omega
        · gi_wp2
          refine bodyPost_ret (results_none rfl _ _ _) rfl ?_
          exact ⟨⟨_, rfl⟩, .inr ⟨_, by
            rw [← those_hit _ _ _ Hd.out, ← HT.out]
            exact List.IsPrefix.filter _ (List.take_prefix _ _), hJx3⟩⟩
      · have hd1 : (y.1.f0 == dir) = false := beq_eq_false_iff_ne.mpr hd
        have Hd := Lib.hid (show (f x).1.f0 ≠ dir from hfx ▸ hd)
        clear hd hfx
        have HT := Lib.hid htk
        clear htk
        have hb1 := hbx.alloc (.cells #[Value.int IntKind.i64 y.1.f0, Value.int IntKind.i64 y.1.f1, Value.slice y.2.1 y.1.f2.length y.2.2] 32)
        gi_wp2
        refine ⟨fun _ h => (by cases h), ?_⟩
        gi_wp2
        go_roundw
        case rel => exact ⟨k + 1, by omega, by go_num, by rw [HT.out, those_miss _ _ _ Hd.out]; exact hJ _ _ _ hJs, hnx.alloc hnx.size _, hb1⟩
        case measure => simp [intOf]; omega
    · obtain rfl : k = its.length := by omega
      gi_wp2
      go_end0
      rw [List.take_length] at hJs
      exact ⟨⟨_, rfl⟩, .inl ⟨_, rfl, hJs⟩⟩
set_option maxRecDepth 100000 in
set_option maxHeartbeats 1000000 in
/-- .. at a slice of no events: no round. -/
theorem of1_none_in {α : Type} (F : Fence) (n : Nat) (hf : F.fn 29) (hro : F.round = none) (l Bl Bd : Nat) (A : Option Addr) (cap : Nat) (J : List α → World → Prop) (W : World) (hBl : W.cell? ⟨Bl, 0, none⟩ = some (.slice A 0 cap)) (h0 : J [] W) :
    CallsIn F n Try.prog 29 #[.func (.yield l) #[] #[], .pointer (some ⟨Bl, 0, none⟩), .pointer (some ⟨Bd, 0, none⟩)] W fun e W' => (∃ v, e = .returned v) ∧ J [] W' := by
  refine callsIn_of_wp Try.func29 rfl hf ?_ hro
  simp only [Try.ntmps29, List.size_toArray, List.length_cons, List.length_nil, Nat.reduceAdd, Nat.reduceSub, Array.replicate_succ, Array.replicate_zero, List.push_toArray, List.append_toArray, List.nil_append, List.cons_append]
  gi_wp2
  gi_loopw [8] (fun i wr => i = .int .i64 0 ∧ J [] wr) (fun _ _ => 0)
  case atStart => exact ⟨rfl, h0⟩
  case round =>
    obtain ⟨rfl, hJs⟩ := hrel
    gi_wp2
    go_end0
    exact ⟨⟨_, rfl⟩, hJs⟩
set_option maxHeartbeats 1000000 in
/-- event.Of: both parameters are boxed; the function value captures the boxes -/
theorem of_in (F : Fence) (n : Nat) (hf : F.fn 22) (hro : F.round = none) (dir : Int) (A : Option Addr) (len cap : Nat) (w : World) :
    CallsIn F n Try.prog 22 #[.int .i64 dir, .slice A len cap] w fun e w' => e = .returned (.func (.func 29) #[] #[.pointer (some ⟨w.heap.size + 1, 0, none⟩), .pointer (some ⟨w.heap.size, 0, none⟩)]) ∧ w' = (w.alloc (.cells #[.int .i64 dir] 3)).alloc (.cells #[.slice A len cap] 22) := by
  refine callsIn_of_wp Try.func22 rfl hf ?_ hro
  simp only [Try.ntmps22, List.size_toArray, List.length_cons, List.length_nil, Nat.reduceAdd, Nat.reduceSub, Array.replicate_succ, Array.replicate_zero, List.push_toArray, List.append_toArray, List.nil_append, List.cons_append]
  gi_wp2
  go_ret
  exact ⟨by simp, rfl⟩
/-- event.Of hands back a value that stops where it is told to: those of the direction, in their order, or a beginning of them -/
theorem of_stops {α : Type} (f : α → Itm) (F : Fence) (n : Nat) (hf : F.fn 29) (hro : F.round = none) (hn : 1 ≤ n) (Bl Bd : Nat) (dir : Int) (A : Option Addr) (cap : Nat) (its : List α) (hreach : its.length ≤ 9223372036854775806) (w0 w : World)
    (hb0 : Below w0.heap.size w0 w) (hBl : w.cell? ⟨Bl, 0, none⟩ = some (.slice A its.length cap)) (hBd : Boxed w Bd 3 (.int .i64 dir)) (hits : 0 < its.length → ∃ ad, A = some ad ∧ ∀ j i, its[j]? = some i → ItmAt w0 ad j (f i)) :
    SeqStopsK F n Try.prog 29 #[.pointer (some ⟨Bl, 0, none⟩), .pointer (some ⟨Bd, 0, none⟩)] (fun x : α => #[Itm.val (f x)]) (KeepOf w0.heap.size Bd dir) (fun ys => ys = those f dir its) (fun pre => pre <+: those f dir its) its.length w := fun l J Jx W hW hJ _ hY h0 => by
  have hBl' : W.cell? ⟨Bl, 0, none⟩ = some (.slice A its.length cap) := pw_cell_below hW hBl
  have hBd' : Boxed W Bd 3 (.int .i64 dir) := (hW.block Bd hBd.lt).trans hBd
  rcases Nat.eq_zero_or_pos its.length with h | h
  · rw [h] at hBl'
    obtain rfl : its = [] := List.eq_nil_of_length_eq_zero h
    exact (of1_none_in F n hf hro l Bl Bd A cap J W hBl' h0).mono fun e W' ⟨he, hj⟩ => ⟨he, .inl ⟨_, rfl, hj⟩⟩
  · obtain ⟨ad, rfl, hit⟩ := hits h
    have hbd : ad.block < w0.heap.size := by
      have := World.block_lt_of_cell? w0 _ (hit 0 its[0] (List.getElem?_eq_getElem h)).1
      have e : ∀ j, (ad.add j).block = ad.block := fun j => by unfold Addr.add; split <;> rfl
      rw [e] at this
      exact this
    refine of1_in f F n hf hro hn l Bl Bd w0.heap.size dir ad cap its hreach hbd w0 (Nat.le_refl _) hit J Jx hY (fun pre W o hj => ?_) W (hb0.trans (hW.mono hb0.size)) hBl' hBd' h0
    exact hJ pre W (W.alloc o) none hj (World.grownBy_alloc W o none) (by simp)
end Go.Proofs.Ytdbnmccflbkcoaa.QA
