import Derived.RangeFuncNested
import Derived.RangeFuncBound
import Derived.RangeFuncCalls
import Derived.RangeFuncLeaves
import Derived.Shelf.Abstract
import Derived.Shelf.RegionOpen
import Derived.WalkKit
import Derived.OwnWalkIn
import Derived.TacticsInMore
import Derived.LoopNIn
import Derived.LoopIn
import Derived.Maps.AppendAt
import Derived.StillTailTactics
import Derived.Lib.Hide
import Derived.Outline
import Derived.Deep.RegionWith
import Derived.Deep.RegionLaw
import Derived.Deep.AppendLies
import Derived.Test.YtjcaflhlilckgaaQAx19
import Derived.Test.YtjcaflhlilckgaaGLaw
import Derived.CallsIn
namespace Go.Proofs.Ytjcaflhlilckgaa.QA
open Go.RowKit Go.Shelf Go.Proofs.YtjcaflhlilckgaaW.PrintWords Go.Proofs.YtjcaflhlilckgaaW.PrintLast Go.Proofs.YtjcaflhlilckgaaW.PrintMore
attribute [local go_sem] Oper.semAt_some
set_option linter.unusedVariables false
set_option linter.unusedSimpArgs false
/-! ### turn.All: what its iterator tells, whatever the body of the loop does with its box and its row -/
/-- block k is the box b, or the row that it holds -/
def Free (b : Nat) (W : World) (k : Nat) : Prop := k = b ∨ ∃ v, W.cell? ⟨b, 0, none⟩ = some v ∧ v.ownBlock = some k
/-- the body's row is no block that is still to come -/
def NF (b : Nat) (W : World) : Prop := ∀ k, W.heap.size ≤ k → ¬ Free b W k
/-- what a round that goes on keeps: all cells but these -/
def Keep (b : Nat) (W W' : World) : Prop :=
  W.heap.size ≤ W'.heap.size ∧ (∀ (k : Nat) (o : Obj), W.heap[k]? = some o → o.isCells = true → ¬ Free b W k → W'.heap[k]? = some o) ∧ (∀ k, k < W.heap.size → ¬ Free b W k → ¬ Free b W' k) ∧ (NF b W → NF b W')
theorem Keep.trans {b : Nat} {X Y Z : World} (h : Keep b X Y) (k : Keep b Y Z) : Keep b X Z :=
  ⟨Nat.le_trans h.1 k.1, fun i o hi ho hf => k.2.1 i o (h.2.1 i o hi ho hf) ho (h.2.2.1 i (Array.getElem?_eq_some_iff.1 hi).1 hf),
   fun i hi hf => k.2.2.1 i (Nat.lt_of_lt_of_le hi h.1) (h.2.2.1 i hi hf), fun hn => k.2.2.2 (h.2.2.2 hn)⟩
theorem free_eq {b : Nat} {W W' : World} (h : W'.heap[b]? = W.heap[b]?) (k : Nat) : Free b W' k ↔ Free b W k := by
  have e : W'.cell? ⟨b, 0, none⟩ = W.cell? ⟨b, 0, none⟩ := by simp [World.cell?, h]
  unfold Free
  rw [e]
theorem keep_putObj {b n₀ : Nat} (hb : b < n₀) (W : World) (l : Nat) (o o' : Obj) (hl : n₀ ≤ l) (h : W.heap[l]? = some o) (h1 : o.isCells = false) (h2 : o'.isCells = false) : Keep b W (W.putObj l o') := by
  have he : (W.putObj l o').heap[b]? = W.heap[b]? := World.putObj_heap_other (by omega)
  refine ⟨by simp [World.putObj], fun k o2 hk ho _ => ?_, fun k _ hf => fun h => hf ((free_eq he k).1 h), fun hn k hk h => hn k (by simpa [World.putObj] using hk) ((free_eq he k).1 h)⟩
  refine (World.putObj_heap_other ?_).trans hk
  rintro rfl
  rw [h] at hk; cases hk; rw [h1] at ho; cases ho
theorem NF.grown {b : Nat} {W W' : World} {row : Option Nat} (h : NF b W) (hg : W.grownBy W' row) (hb : b < W.heap.size) (hr : some b ≠ row) : NF b W' := fun k hk hf => h k (Nat.le_trans hg.size hk) ((free_eq (hg.block b hb hr) k).1 hf)
theorem Keep.cells {b : Nat} {W W' : World} (h : Keep b W W') {k : Nat} {o : Obj} (hk : W.heap[k]? = some o) (ho : o.isCells = true) (hf : ¬ Free b W k) : W'.heap[k]? = some o := h.2.1 k o hk ho hf
/-- what was made from n₁ on, up to W1, lies as it lay; the body's box and row are none of it -/
def Kpt (b n₁ : Nat) (W1 W : World) : Prop :=
  W1.heap.size ≤ W.heap.size ∧ ∀ (k : Nat) (q : TypeId) (cells : Array Value), n₁ ≤ k → W1.heap[k]? = some (.cells cells q (0, 0)) → W.heap[k]? = some (.cells cells q (0, 0)) ∧ ¬ Free b W k
theorem Kpt.keep {b n₁ : Nat} {W1 W W' : World} (h : Kpt b n₁ W1 W) (k : Keep b W W') : Kpt b n₁ W1 W' :=
  ⟨Nat.le_trans h.1 k.1, fun i q cells hi hc => by
    obtain ⟨h1, h2⟩ := h.2 i q cells hi hc
    exact ⟨k.cells h1 rfl h2, k.2.2.1 _ (Array.getElem?_eq_some_iff.1 h1).1 h2⟩⟩
theorem Kpt.grown {b n₁ : Nat} {W1 W W' : World} {row : Option Nat} (h : Kpt b n₁ W1 W) (hg : W.grownBy W' row) (hb : b < W.heap.size) (hrow : ∀ r, row = some r → r < n₁ ∧ r ≠ b) : Kpt b n₁ W1 W' :=
  ⟨Nat.le_trans h.1 hg.size, fun i q cells hi hc => by
    obtain ⟨h1, h2⟩ := h.2 i q cells hi hc
    have hlt := (Array.getElem?_eq_some_iff.1 h1).1
    refine ⟨(hg.block i hlt (fun e => ?_)).trans h1, mt (free_eq (hg.block b hb (fun e => ?_)) i).1 h2⟩
    · have := (hrow i e.symm).1; omega
    · exact (hrow b e.symm).2 rfl⟩
theorem Kpt.row {b n₁ : Nat} {W1 W : World} (h : Kpt b n₁ W1 W) {v : Value} {bs : List Int} (hr : (Kd.int .u8).R 5 W1 n₁ (fun _ => True) v bs) : (Kd.int .u8).R 5 W n₁ (fun _ => True) v bs :=
  Kd.R_mono (Kd.R_move (Kd.R_bound hr) (fun k hk => by
    obtain ⟨_, h1, _, q, _, cells, hc⟩ := hk
    rw [(h.2 k q cells h1 hc).1, hc])) (fun _ _ => trivial)
theorem abC_alloc {α : Type} {C : World → Nat → Prop} {J : List α → World → Prop} (h : AbC C J) {pre : List α} {W : World} (o : Obj) (hj : J pre W) : J pre (W.alloc o) :=
  h pre W _ none hj (World.grownBy_alloc W o none) (fun r hr => by cases hr)
/-! #### the events that are merged, item by item -/
abbrev Itm := S37 × Option Addr × Nat
def Itm.val (i : Itm) : Value := .agg #[.int .i64 i.1.f0, .int .i64 i.1.f1, .slice i.2.1 i.1.f2.length i.2.2]
theorem choose_list {α β : Type} (l : List α) : ∀ (Q : Nat → α → β → Prop), (∀ j p, l[j]? = some p → ∃ y, Q j p y) → ∃ ys : List (α × β), ys.map (·.1) = l ∧ ∀ j y, ys[j]? = some y → Q j y.1 y.2 := by
  induction l with
  | nil => intro Q _; exact ⟨[], rfl, fun j y h => by simp at h⟩
  | cons a r ih =>
    intro Q h
    obtain ⟨y, hy⟩ := h 0 a rfl
    obtain ⟨ys, e, hq⟩ := ih (fun j => Q (j + 1)) (fun j p hp => h (j + 1) p (by simpa using hp))
    refine ⟨(a, y) :: ys, by simp [e], fun j z hz => ?_⟩
    cases j with
    | zero => simp at hz; subst hz; exact hy
    | succ j => exact hq j z (by simpa using hz)
/-- where item j's cells lie -/
def ItmAt (w : World) (ad : Addr) (j : Nat) (i : Itm) : Prop :=
  w.cell? (ad.add (j * 3)) = some (.int .i64 i.1.f0) ∧ w.cell? ⟨(ad.add (j * 3)).block, (ad.add (j * 3)).off + 1, none⟩ = some (.int .i64 i.1.f1) ∧
    w.cell? ⟨(ad.add (j * 3)).block, (ad.add (j * 3)).off + 2, none⟩ = some (.slice i.2.1 i.1.f2.length i.2.2)
theorem items {W : World} {base : Nat} {v : Value} {l : List S37} (h : Kd.R k37 37 W base (fun _ => True) v l) : ∃ (A : Option Addr) (cap : Nat) (its : List Itm), v = .slice A l.length cap ∧ its.map (·.1) = l ∧
    (∀ i ∈ its, (Kd.int .u8).R 5 W base (fun _ => True) (.slice i.2.1 i.1.f2.length i.2.2) i.1.f2) ∧ (0 < l.length → ∃ ad cells, A = some ad ∧ base ≤ ad.block ∧ W.heap[ad.block]? = some (.cells cells 37 (0, 0)) ∧ ∀ j i, its[j]? = some i → ItmAt W ad j i) := by
  obtain ⟨A, cap, rfl⟩ := Kd.R_slice h
  rcases Nat.eq_zero_or_pos l.length with h0 | h0
  · obtain rfl : l = [] := List.eq_nil_of_length_eq_zero h0
    exact ⟨A, cap, [], rfl, rfl, (by intro i hi; cases hi), (by intro h; simp at h)⟩
  · obtain ⟨g, c2, he, hb, hlt, cells, hg⟩ := Kd.R_form h h0
    injection he with ha _ hc
    subst ha; subst hc
    obtain ⟨ys, e, hq⟩ := choose_list l (fun j (x : S37) (y : Option Addr × Nat) => ItmAt W ⟨g, 0, none⟩ j (x, y) ∧ (Kd.int .u8).R 5 W base (fun _ => True) (.slice y.1 x.f2.length y.2) x.f2) (fun j p hp => by
      obtain ⟨hj, hpe⟩ := List.getElem?_eq_some_iff.1 hp
      obtain ⟨c, hcl, hM, hcell, _⟩ := Kd.R_elem h p (j : Int) (by omega) (by omega)
      simp only [Int.toNat_natCast] at hM hcell
      rw [List.getD_eq_getElem?_getD, hp] at hM
      obtain ⟨v2, rfl, g2⟩ := k37_openM hM
      obtain ⟨A2, c2, rfl⟩ := Kd.R_slice g2
      have hc' : ∀ i u, ([.int .i64 p.f0, .int .i64 p.f1, .slice A2 p.f2.length c2] : List Value)[i]? = some u → W.cell? ⟨g, j * 3 + i, none⟩ = some u := hcell
      refine ⟨(A2, c2), ⟨?_, ?_, ?_⟩, Kd.R_mono g2 (fun _ _ => trivial)⟩
      · rw [add_plain]; exact hc' 0 _ rfl
      · rw [add_plain]; exact hc' 1 _ rfl
      · rw [add_plain]; exact hc' 2 _ rfl)
    exact ⟨_, _, ys, rfl, e, fun i hi => by
      obtain ⟨j, hj⟩ := List.getElem?_of_mem hi
      exact (hq j i hj).2, fun _ => ⟨_, _, rfl, hb, hg, fun j i hj => (hq j i hj).1⟩⟩
theorem ItmAt.kpt {b n₁ : Nat} {W1 W : World} {ad : Addr} {j : Nat} {i : Itm} {cells : Array Value} (h : ItmAt W1 ad j i) (k : Kpt b n₁ W1 W) (hb : n₁ ≤ ad.block) (hc : W1.heap[ad.block]? = some (.cells cells 37 (0, 0))) : ItmAt W ad j i := by
  have e := (k.2 _ _ _ hb hc).1
  have e2 : ∀ m, (ad.add m).block = ad.block := fun m => by unfold Addr.add; split <;> rfl
  have key : ∀ (a : Addr) (u : Value), a.block = ad.block → W1.cell? a = some u → W.cell? a = some u := fun a u ha hu => by
    unfold World.cell? at hu ⊢
    rw [ha] at hu ⊢
    rw [e]
    rw [hc] at hu
    exact hu
  exact ⟨key _ _ (e2 _) h.1, key _ _ (e2 _) h.2.1, key _ _ (e2 _) h.2.2⟩
/-! #### the turns, in plain words -/
def full (t : S33) : Prop := 0 < t.f0.length + t.f1.length
instance (t : S33) : Decidable (full t) := inferInstanceAs (Decidable (0 < t.f0.length + t.f1.length))
def tstep (s : List S33 × S33) (e : S37) : List S33 × S33 := if e.f0 = 1 then (s.1, ⟨s.2.f0, e.f2⟩) else ((if full s.2 then s.1 ++ [s.2] else s.1), ⟨e.f2, []⟩)
def tfold (l : List S37) : List S33 × S33 := l.foldl tstep ([], ⟨[], []⟩)
def turns (l : List S37) : List S33 := if full (tfold l).2 then (tfold l).1 ++ [(tfold l).2] else (tfold l).1
theorem tfold_snoc (l : List S37) (e : S37) : tfold (l ++ [e]) = tstep (tfold l) e := by unfold tfold; rw [List.foldl_append]; rfl
theorem tstep_pre (s : List S33 × S33) (e : S37) : s.1 <+: (tstep s e).1 := by
  unfold tstep
  split
  · exact List.prefix_refl _
  · split
    · exact List.prefix_append _ _
    · exact List.prefix_refl _
theorem tfold_pre (l : List S37) (i d : Nat) : (tfold (l.take i)).1 <+: (tfold (l.take (i + d))).1 := by
  induction d with
  | zero => exact List.prefix_refl _
  | succ d ih =>
    refine ih.trans ?_
    rcases Nat.lt_or_ge (i + d) l.length with h | h
    · rw [show i + (d + 1) = i + d + 1 by omega, List.take_succ_eq_append_getElem h, tfold_snoc]
      exact tstep_pre _ _
    · rw [List.take_of_length_le h, List.take_of_length_le (by omega)]
      exact List.prefix_refl _
theorem turns_pre (l : List S37) (i : Nat) : (tfold (l.take i)).1 <+: turns l := by
  have h1 : (tfold (l.take i)).1 <+: (tfold l).1 := by
    have := tfold_pre l i l.length
    rwa [List.take_of_length_le (show l.length ≤ i + l.length by omega)] at this
  refine h1.trans ?_
  unfold turns
  split
  · exact List.prefix_append _ _
  · exact List.prefix_refl _
/-! #### the iterator -/
/-- a turn that is told: its number, its two slices, what they hold -/
abbrev TIt := Nat × Value × Value × S33
def TIt.enc (x : TIt) : Array Value := #[.int .i64 x.1, .agg #[x.2.1, x.2.2.1]]
def NxT (n₀ : Nat) (ts : List S33) (pre : List TIt) (x : TIt) (W : World) : Prop :=
  x.1 = pre.length ∧ pre.map (fun i => i.2.2.2) ++ [x.2.2.2] <+: ts ∧ (Kd.int .u8).R 5 W n₀ (fun _ => True) x.2.1 x.2.2.2.f0 ∧ (Kd.int .u8).R 5 W n₀ (fun _ => True) x.2.2.1 x.2.2.2.f1
theorem r5_putObj {W : World} {n₀ : Nat} {v : Value} {bs : List Int} (h : (Kd.int .u8).R 5 W n₀ (fun _ => True) v bs) (l : Nat) (o o' : Obj) (hl : W.heap[l]? = some o) (ho : o.isCells = false) : (Kd.int .u8).R 5 (W.putObj l o') n₀ (fun _ => True) v bs :=
  Kd.R_mono (Kd.R_move (Kd.R_bound h) (fun k hk => by
    obtain ⟨_, _, _, q, _, cells, hc⟩ := hk
    refine World.putObj_heap_other ?_
    rintro rfl
    rw [hl] at hc
    cases hc
    cases ho)) (fun _ _ => trivial)
theorem nxT_putObj {n₀ : Nat} {ts : List S33} (pre : List TIt) (x : TIt) (W : World) (l : Nat) (o o' : Obj) (h : W.heap[l]? = some o) (h1 : o.isCells = false) (hn : NxT n₀ ts pre x W) : NxT n₀ ts pre x (W.putObj l o') :=
  ⟨hn.1, hn.2.1, r5_putObj hn.2.2.1 l o o' h h1, r5_putObj hn.2.2.2 l o o' h h1⟩
set_option maxHeartbeats 1000000 in
/-- turn.All: its parameter is boxed; the function value captures the box -/
theorem all_in (F : Fence) (n : Nat) (hf : F.fn 13) (hro : F.round = none) (A : Option Addr) (len cap : Nat) (w : World) :
    CallsIn F n Try.prog 13 #[.slice A len cap] w fun e w' => e = .returned (.func (.func 23) #[] #[.pointer (some ⟨w.heap.size, 0, none⟩)]) ∧ w' = w.alloc (.cells #[.slice A len cap] 22) := by
  refine callsIn_of_wp Try.func13 rfl hf ?_ hro
  simp only [Try.ntmps13, List.size_toArray, List.length_cons, List.length_nil, Nat.reduceAdd, Nat.reduceSub, Array.replicate_succ, Array.replicate_zero, List.push_toArray, List.append_toArray, List.nil_append, List.cons_append]
  gi_wp2
  go_ret
  exact ⟨by simp, rfl⟩
end Go.Proofs.Ytjcaflhlilckgaa.QA
