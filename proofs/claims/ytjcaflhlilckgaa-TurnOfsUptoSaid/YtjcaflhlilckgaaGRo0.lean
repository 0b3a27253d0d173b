import Derived.RangeFuncNested
import Derived.RangeFuncBound
import Derived.RangeFuncCalls
import Derived.RangeFuncLeaves
import Derived.Shelf.Abstract
import Derived.Shelf.RegionOpen
import Derived.WalkKit
import Derived.OwnWalkIn
import Derived.TacticsInMore
import Derived.LoopNIn
import Derived.LoopIn
import Derived.Maps.AppendAt
import Derived.StillTailTactics
import Derived.Lib.Hide
import Derived.Lib.LazyBuf
import Derived.Outline
import Derived.Deep.RegionWith
import Derived.Deep.RegionLaw
import Derived.Deep.AppendLies
import Derived.CallsIn

import Derived.Lib.Bytes
import Derived.Deep.DeepCutAuto
import Derived.Lib.SmallJoins
import Derived.Laws.EntriesVeiled
import Derived.Deep.RegionHeld3
import Derived.BigRegion
import Derived.BigQuiet
import Derived.Test.YtjcaflhlilckgaaPShape
import Derived.Test.YtjcaflhlilckgaaGOf
namespace Go.Proofs.Ytjcaflhlilckgaa.QA
open Go.RowKit Go.Shelf Go.Proofs.YtjcaflhlilckgaaW.PrintWords Go.Proofs.YtjcaflhlilckgaaW.PrintLast Go.Proofs.YtjcaflhlilckgaaW.PrintMore
attribute [local go_sem] max2_int min2_int max_two min_two max_three min_three max_four min_four   -- for this text's walks alone
set_option linter.unusedVariables false
set_option linter.unusedSimpArgs false
/-! ### the document's turns: a row of one's own, both slices of each of its turns rows of one's own, no two of them one -/
abbrev TI : Type := S33 × Value × Value
def cells2 (i : TI) : List Value := [i.2.1, i.2.2]
def flat (its : List TI) : List Value := its.flatMap cells2
theorem flat_append (a b : List TI) : flat (a ++ b) = flat a ++ flat b := List.flatMap_append
theorem flat_one (i : TI) : flat [i] = [i.2.1, i.2.2] := rfl
theorem flat_len (its : List TI) : (flat its).length = its.length * 2 := by
  induction its with
  | nil => rfl
  | cons a r ih => rw [show flat (a :: r) = cells2 a ++ flat r from rfl, List.length_append, ih, List.length_cons]; show 2 + _ = _; omega
/-- no two slices of one block -/
def Apt (vs : List Value) : Prop := vs.Pairwise fun u v => ∀ k, u.ownBlock = some k → v.ownBlock ≠ some k
def Tw (w : World) (base : Nat) (v : Value) (its : List TI) : Prop :=
  w.ownsRow base 33 2 v its.length (flat its) ∧ (∀ i ∈ its, w.ownsRow base 5 1 i.2.1 i.1.f0.length (nums .u8 i.1.f0) ∧ w.ownsRow base 5 1 i.2.2 i.1.f1.length (nums .u8 i.1.f1)) ∧ Apt (flat its)
theorem Tw.nil (w : World) (base : Nat) : Tw w base (.slice none 0 0) [] := ⟨World.ownsRow_nil _ _ _ _, fun i h => absurd h (List.not_mem_nil), List.Pairwise.nil⟩
theorem flat_mem {its : List TI} {u : Value} (h : u ∈ flat its) : ∃ i ∈ its, u = i.2.1 ∨ u = i.2.2 := by
  obtain ⟨i, hi, hu⟩ := List.mem_flatMap.1 h
  unfold cells2 at hu
  simp only [List.mem_cons, List.not_mem_nil, or_false] at hu
  exact ⟨i, hi, hu⟩
/-- each of the slices is a row of bytes -/
theorem Tw.byt {w : World} {base : Nat} {v : Value} {its : List TI} (h : Tw w base v its) : ∀ u ∈ flat its, ∃ xs, w.ownsRow base 5 1 u xs.length (nums .u8 xs) := fun u hu => by
  obtain ⟨i, hi, rfl | rfl⟩ := flat_mem hu
  · exact ⟨_, (h.2.1 i hi).1⟩
  · exact ⟨_, (h.2.1 i hi).2⟩
theorem Tw.lt {w : World} {base : Nat} {v : Value} {its : List TI} (h : Tw w base v its) : ∀ u ∈ flat its, ∀ k, u.ownBlock = some k → base ≤ k ∧ k < w.heap.size ∧ v.ownBlock ≠ some k := fun u hu k hk => by
  obtain ⟨xs, ho⟩ := h.byt u hu
  refine ⟨own_base ho k hk, own_lt ho k hk, fun e => ?_⟩
  obtain ⟨c1, h1⟩ := own_typed ho k hk
  obtain ⟨c2, h2⟩ := own_typed h.1 k e
  rw [h1] at h2
  injection h2 with h2
  injection h2 with _ h2
  exact absurd h2 (by decide)
/-- blocks stay -/
theorem Tw.move {w w1 : World} {base : Nat} {v : Value} {its : List TI} (h : Tw w base v its) (hv : ∀ k, v.ownBlock = some k → w1.heap[k]? = w.heap[k]?) (hf : ∀ u ∈ flat its, ∀ k, u.ownBlock = some k → w1.heap[k]? = w.heap[k]?) : Tw w1 base v its :=
  ⟨own_move h.1 hv, fun i hi => ⟨own_move (h.2.1 i hi).1 (hf _ (List.mem_flatMap.2 ⟨i, hi, by simp [cells2]⟩)), own_move (h.2.1 i hi).2 (hf _ (List.mem_flatMap.2 ⟨i, hi, by simp [cells2]⟩))⟩, h.2.2⟩
theorem Tw.below {w w1 : World} {base : Nat} {v : Value} {its : List TI} (h : Tw w base v its) (hb : Below w.heap.size w w1) : Tw w1 base v its :=
  h.move (fun k hk => hb.block k (own_lt h.1 k hk)) (fun u hu k hk => hb.block k (h.lt u hu k hk).2.1)
theorem reps2 {R : S33 → List Value → Prop} (its : List TI) (hr : ∀ i ∈ its, R i.1 (cells2 i)) : Reps R 2 (its.map (·.1)) (flat its) := by
  have h : ∀ n, n ≤ its.length → Reps R 2 ((its.take n).map (·.1)) (flat (its.take n)) := by
    intro n
    induction n with
    | zero => intro _; simpa [flat] using Reps.none R 2
    | succ n ih =>
      intro hn
      rw [List.take_succ_eq_append_getElem (by omega), flat_append, List.map_append]
      have := hr _ (List.getElem_mem (show n < its.length by omega))
      have h2 := (ih (by omega)).snoc this rfl
      simpa [flat] using h2
  have := h its.length (Nat.le_refl _)
  rwa [List.take_length] at this
theorem Tw.reads {w : World} {base : Nat} {v : Value} {its : List TI} (h : Tw w base v its) : Kd.R k33 33 w base (fun _ => True) v (its.map (·.1)) := by
  refine ⟨fun _ _ => trivial, flat its, by rw [List.length_map]; exact h.1, reps2 its fun i hi => ?_⟩
  have h1 := h.2.1 i hi
  exact k33_mkM _ _ _ i.1
    (Kd.R_of_own (enc := Value.int .u8) (h1 := fun _ => rfl) (ok := fun k => True ∧ some k ≠ v.ownBlock) h1.1 (fun k hk => ⟨trivial, fun e => (h.lt i.2.1 (List.mem_flatMap.2 ⟨i, hi, by simp [cells2]⟩) k hk).2.2 e.symm⟩))
    (Kd.R_of_own (enc := Value.int .u8) (h1 := fun _ => rfl) (ok := fun k => True ∧ some k ≠ v.ownBlock) h1.2 (fun k hk => ⟨trivial, fun e => (h.lt i.2.2 (List.mem_flatMap.2 ⟨i, hi, by simp [cells2]⟩) k hk).2.2 e.symm⟩))
/-- a turn more, an empty one -/
theorem tw_new {W : World} {base : Nat} {v : Value} {its : List TI} (h : Tw W base v its) (hbase : base ≤ W.heap.size) (ad : Addr) (c : Nat) (hnews : ∀ j u, ([.slice none 0 0, .slice none 0 0] : List Value)[j]? = some u → W.cell? (ad.add j) = some u) (hlen : (its.length + 1) * 48 ≤ 140737488355328) (ty : TypeId) :
    ∃ v1 w1, (Builtin.append_ #[24, 24] ty #[v, .slice (some ad) 1 c]).run Try.prog W = .ok v1 w1 ∧ Tw w1 base v1 (its ++ [(⟨[], []⟩, .slice none 0 0, .slice none 0 0)]) ∧ W.grownBy w1 v.ownBlock := by
  obtain ⟨i0, hi, hzz⟩ := Option.map_eq_some_iff.1 info33
  simp only [Prod.mk.injEq] at hzz
  obtain ⟨hz0, hz1, hz2⟩ := hzz
  obtain ⟨v1, w1, hrun, h2, h3, _, h5⟩ := run_append_own_at (P := Try.prog) (w := W) base 24 ty 33 i0 _ 2 48 Try.underlying24 hi hz0 hz1 hz2 rfl (by decide) v its.length (flat its) h.1 ad 1 c [.slice none 0 0, .slice none 0 0] rfl hnews
    (by intro u hu; simp only [List.mem_cons, List.not_mem_nil, or_false] at hu; rcases hu with rfl | rfl <;> rfl) (by simp only [maxLen]; omega) hlen hbase
  have hn := fun u (hu : u ∈ flat its) k hk => (h3.block k (h.lt u hu k hk).2.1 (fun e => (h.lt u hu k hk).2.2 e.symm))
  refine ⟨v1, w1, hrun, ⟨?_, fun i hi => ?_, ?_⟩, h3⟩
  · rw [flat_append, List.length_append]
    exact h2
  · rcases List.mem_append.1 hi with hi | hi
    · exact ⟨own_move (h.2.1 i hi).1 (hn _ (List.mem_flatMap.2 ⟨i, hi, by simp [cells2]⟩)), own_move (h.2.1 i hi).2 (hn _ (List.mem_flatMap.2 ⟨i, hi, by simp [cells2]⟩))⟩
    · obtain rfl := List.mem_singleton.1 hi
      exact ⟨World.ownsRow_nil _ _ _ _, World.ownsRow_nil _ _ _ _⟩
  · rw [flat_append]
    refine List.pairwise_append.2 ⟨h.2.2, ?_, fun u _ u' hu' k _ e => ?_⟩
    · refine List.pairwise_cons.2 ⟨fun u' hu' k hk => ?_, List.pairwise_singleton _ _⟩
      cases hk
    · rw [flat_one] at hu'
      simp only [List.mem_cons, List.not_mem_nil, or_false] at hu'
      rcases hu' with rfl | rfl <;> cases e
theorem apt_mid {A B : List Value} {u u' : Value} (h : Apt (A ++ u :: B)) (hu : ∀ k, u'.ownBlock = some k → u.ownBlock = some k ∨ ∀ x ∈ A ++ B, x.ownBlock ≠ some k) : Apt (A ++ u' :: B) := by
  obtain ⟨h1, h2, h3⟩ := List.pairwise_append.1 h
  obtain ⟨h4, h5⟩ := List.pairwise_cons.1 h2
  refine List.pairwise_append.2 ⟨h1, List.pairwise_cons.2 ⟨fun x hx k hk e => ?_, h5⟩, fun x hx y hy k hk e => ?_⟩
  · rcases hu k hk with h6 | h6
    · exact h4 x hx k h6 e
    · exact h6 x (List.mem_append_right _ hx) e
  · rcases List.mem_cons.1 hy with rfl | hy
    · rcases hu k e with h6 | h6
      · exact h3 x hx u (List.mem_cons_self ..) k hk h6
      · exact h6 x (List.mem_append_left _ hx) hk
    · exact h3 x hx y (List.mem_cons_of_mem _ hy) k hk e
theorem set_mid {α : Type} (A B : List α) (u v : α) : (A ++ u :: B).set A.length v = A ++ v :: B := by
  rw [List.set_append_right _ _ (Nat.le_refl _), Nat.sub_self]
  rfl
/-- a byte behind one of the slices; the slice stored where it lay -/
theorem byte_core {W : World} {base g m cc : Nat} {A B : List Value} {u : Value} {xs : List Int} {b : Int} (hv : W.ownsRow base 33 2 (.slice (some ⟨g, 0, none⟩) m cc) m (A ++ u :: B)) (hu : W.ownsRow base 5 1 u xs.length (nums .u8 xs))
    (hoth : ∀ x ∈ A ++ B, ∃ ys, W.ownsRow base 5 1 x ys.length (nums .u8 ys)) (hap : Apt (A ++ u :: B)) (hbase : base ≤ W.heap.size) (ad : Addr) (c : Nat) (hb : W.cell? (ad.add 0) = some (.int .u8 b)) (hlen : xs.length + 1 ≤ 140737488355328) (ty : TypeId) :
    ∃ (v1 : Value) (w1 : World), (Builtin.append_ #[31, 31] ty #[u, .slice (some ad) 1 c]).run Try.prog W = .ok v1 w1 ∧ W.grownBy w1 u.ownBlock ∧ (∃ A1 c1, v1 = .slice A1 (xs.length + 1) c1) ∧ w1.cell? ⟨g, A.length, none⟩ = some u ∧ w1.frozen? ⟨g, A.length, none⟩ = false ∧
      (w1.setCell ⟨g, A.length, none⟩ v1).ownsRow base 33 2 (.slice (some ⟨g, 0, none⟩) m cc) m (A ++ v1 :: B) ∧ (w1.setCell ⟨g, A.length, none⟩ v1).ownsRow base 5 1 v1 (xs ++ [b]).length (nums .u8 (xs ++ [b])) ∧
      (∀ x ∈ A ++ B, ∀ ys, W.ownsRow base 5 1 x ys.length (nums .u8 ys) → (w1.setCell ⟨g, A.length, none⟩ v1).ownsRow base 5 1 x ys.length (nums .u8 ys)) ∧ Apt (A ++ v1 :: B) ∧ Below base W (w1.setCell ⟨g, A.length, none⟩ v1) := by
  obtain ⟨i0, hi, hzz⟩ := Option.map_eq_some_iff.1 info5
  simp only [Prod.mk.injEq] at hzz
  obtain ⟨hz0, hz1, hz2⟩ := hzz
  obtain ⟨v1, w1, hrun, h2, h3, _, h5⟩ := run_append_own_at (P := Try.prog) (w := W) base 31 ty 5 i0 (.int .u8 0) 1 1 Try.underlying31 hi hz0 hz1 hz2 rfl (by decide) u xs.length (nums .u8 xs) hu ad 1 c [.int .u8 b] rfl
    (fun j v hj => by
      match j, hj with
      | 0, hj => injection hj with hj; subst hj; exact hb) (by intro u hu; obtain rfl := List.mem_singleton.1 hu; rfl) (by simp only [maxLen]; omega) (by omega) hbase
  have h2' : w1.ownsRow base 5 1 v1 (xs ++ [b]).length (nums .u8 (xs ++ [b])) := by
    rw [List.length_append, List.length_singleton]
    simpa [nums] using h2
  obtain ⟨cv, hcv⟩ := own_typed hv g rfl
  have hug : u.ownBlock ≠ some g := fun e => by
    obtain ⟨c2, h2⟩ := own_typed hu g e
    rw [hcv] at h2
    injection h2 with h2
    injection h2 with _ h2
    exact absurd h2 (by decide)
  have hgl := (Array.getElem?_eq_some_iff.1 hcv).1
  have hg1 : w1.heap[g]? = W.heap[g]? := h3.block g hgl (fun e => hug e.symm)
  have hv1 : w1.ownsRow base 33 2 (.slice (some ⟨g, 0, none⟩) m cc) m (A ++ u :: B) := own_move hv (fun k hk => by
    have : g = k := by simpa [Value.ownBlock] using hk
    subst this
    exact hg1)
  have hj : A.length < (A ++ u :: B).length := by simp
  have hat : ∀ k, v1.ownBlock = some k → u.ownBlock = some k ∨ ∀ x ∈ A ++ B, x.ownBlock ≠ some k := fun k hk => by
    rcases h5 with h5 | h5
    · exact .inl (h5 ▸ hk)
    · refine .inr fun x hx e => ?_
      obtain ⟨ys, ho⟩ := hoth x hx
      have := own_lt ho k e
      rw [hk] at h5
      injection h5 with h5
      omega
  have hset : ∀ k, k ≠ g → (w1.setCell ⟨g, A.length, none⟩ v1).heap[k]? = w1.heap[k]? := fun k hk => Below.heap_setCell w1 ⟨g, A.length, none⟩ v1 k hk
  obtain ⟨p1, p2, p3⟩ := List.pairwise_append.1 hap
  obtain ⟨p4, p5⟩ := List.pairwise_cons.1 p2
  have hne : ∀ {x : Value} {ys : List Int} {w : World}, w.ownsRow base 5 1 x ys.length (nums .u8 ys) → w.heap[g]? = some (.cells cv 33 (0, 0)) → ∀ k, x.ownBlock = some k → k ≠ g := fun ho hcg k hk e => by
    subst e
    obtain ⟨c2, h2⟩ := own_typed ho k hk
    rw [hcg] at h2
    injection h2 with h2
    injection h2 with _ h2
    exact absurd h2 (by decide)
  have hst := (hv1.stored A.length v1).1
  rw [set_mid] at hst
  refine ⟨v1, w1, hrun, h3, own_slice h2, ?_, hv1.frozenAt _, hst, own_move h2' (fun k hk => hset k (hne h2' (hg1.trans hcv) k hk)), fun x hx ys ho => own_move ho (fun k hk => ?_), apt_mid hap hat, ?_⟩
  · have hsz := hv1.1
    have := hv1.cellAt A.length (by rw [← hsz]; exact hj)
    rw [this]
    simp
  · refine (hset k (hne ho hcv k hk)).trans (h3.block k (own_lt ho k hk) (fun e => ?_))
    rcases List.mem_append.1 hx with hx | hx
    · exact p3 x hx u (List.mem_cons_self ..) k hk e.symm
    · exact p4 x hx k e.symm hk
  · exact ((Below.refl base W).grown h3 hbase (own_base hu)).setCell (p := ⟨g, A.length, none⟩) (own_base hv g rfl) _
theorem tw_out {W : World} {base g c : Nat} {L : List TI} {t : S33} {vo vi : Value} {b : Int} (h : Tw W base (.slice (some ⟨g, 0, none⟩) (L.length + 1) c) (L ++ [(t, vo, vi)])) (hbase : base ≤ W.heap.size) (ad : Addr) (c' : Nat) (hb : W.cell? (ad.add 0) = some (.int .u8 b)) (hlen : t.f0.length + 1 ≤ 140737488355328) (ty : TypeId) :
    ∃ (v1 : Value) (w1 : World), (Builtin.append_ #[31, 31] ty #[vo, .slice (some ad) 1 c']).run Try.prog W = .ok v1 w1 ∧ W.grownBy w1 vo.ownBlock ∧ (∃ A1 c1, v1 = .slice A1 (t.f0.length + 1) c1) ∧ w1.cell? ⟨g, L.length * 2, none⟩ = some vo ∧ w1.frozen? ⟨g, L.length * 2, none⟩ = false ∧
      Tw (w1.setCell ⟨g, L.length * 2, none⟩ v1) base (.slice (some ⟨g, 0, none⟩) (L.length + 1) c) (L ++ [(⟨t.f0 ++ [b], t.f1⟩, v1, vi)]) ∧ Below base W (w1.setCell ⟨g, L.length * 2, none⟩ v1) := by
  have hf : flat (L ++ [(t, vo, vi)]) = flat L ++ vo :: [vi] := by rw [flat_append, flat_one]
  have hl : (flat L).length = L.length * 2 := by simp [flat_len]
  obtain ⟨h1, h2, h3⟩ := h
  have hlen1 : (L ++ [(t, vo, vi)]).length = L.length + 1 := by simp
  rw [hlen1, hf] at h1
  rw [hf] at h3
  have hi := h2 (t, vo, vi) (List.mem_append_right _ (List.mem_singleton.2 rfl))
  have hmem : ∀ x ∈ flat L ++ [vi], ∃ ys, W.ownsRow base 5 1 x ys.length (nums .u8 ys) := fun x hx => by
    have hx2 : x ∈ flat L ∨ x = vi := by simpa using hx
    rcases hx2 with hx2 | rfl
    · obtain ⟨i, hi2, rfl | rfl⟩ := flat_mem hx2
      · exact ⟨_, (h2 i (List.mem_append_left _ hi2)).1⟩
      · exact ⟨_, (h2 i (List.mem_append_left _ hi2)).2⟩
    · exact ⟨_, hi.2⟩
  obtain ⟨v1, w1, r1, r2, r3, r4, r5, r6, r7, r8, r9, r10⟩ := byte_core (b := b) h1 hi.1 hmem h3 hbase ad c' hb hlen ty
  rw [hl] at r4 r5 r6 r7 r8 r10
  have hin : ∀ i ∈ L, i.2.1 ∈ flat L ++ [vi] ∧ i.2.2 ∈ flat L ++ [vi] := fun i hi => by
    have e1 : i.2.1 ∈ flat L := List.mem_flatMap.2 ⟨i, hi, by simp [cells2]⟩
    have e2 : i.2.2 ∈ flat L := List.mem_flatMap.2 ⟨i, hi, by simp [cells2]⟩
    constructor <;> simp [e1, e2]
  have hf2 : flat (L ++ [(⟨t.f0 ++ [b], t.f1⟩, v1, vi)]) = flat L ++ v1 :: [vi] := by rw [flat_append, flat_one]
  refine ⟨v1, w1, r1, r2, r3, r4, r5, ⟨?_, fun i hi2 => ?_, ?_⟩, r10⟩
  · rw [hf2, show (L ++ [((⟨t.f0 ++ [b], t.f1⟩, v1, vi) : TI)]).length = L.length + 1 by simp]
    exact r6
  · rcases List.mem_append.1 hi2 with hi2 | hi2
    · exact ⟨r8 _ (hin i hi2).1 _ (h2 i (List.mem_append_left _ hi2)).1, r8 _ (hin i hi2).2 _ (h2 i (List.mem_append_left _ hi2)).2⟩
    · obtain rfl := List.mem_singleton.1 hi2
      exact ⟨r7, r8 vi (by simp) _ hi.2⟩
  · rw [hf2]
    exact r9
theorem tw_in {W : World} {base g c : Nat} {L : List TI} {t : S33} {vo vi : Value} {b : Int} (h : Tw W base (.slice (some ⟨g, 0, none⟩) (L.length + 1) c) (L ++ [(t, vo, vi)])) (hbase : base ≤ W.heap.size) (ad : Addr) (c' : Nat) (hb : W.cell? (ad.add 0) = some (.int .u8 b)) (hlen : t.f1.length + 1 ≤ 140737488355328) (ty : TypeId) :
    ∃ (v1 : Value) (w1 : World), (Builtin.append_ #[31, 31] ty #[vi, .slice (some ad) 1 c']).run Try.prog W = .ok v1 w1 ∧ W.grownBy w1 vi.ownBlock ∧ (∃ A1 c1, v1 = .slice A1 (t.f1.length + 1) c1) ∧ w1.cell? ⟨g, L.length * 2 + 1, none⟩ = some vi ∧ w1.frozen? ⟨g, L.length * 2 + 1, none⟩ = false ∧
      Tw (w1.setCell ⟨g, L.length * 2 + 1, none⟩ v1) base (.slice (some ⟨g, 0, none⟩) (L.length + 1) c) (L ++ [(⟨t.f0, t.f1 ++ [b]⟩, vo, v1)]) ∧ Below base W (w1.setCell ⟨g, L.length * 2 + 1, none⟩ v1) := by
  have hf : flat (L ++ [(t, vo, vi)]) = (flat L ++ [vo]) ++ vi :: [] := by rw [flat_append, flat_one, List.append_cons]
  have hl : (flat L ++ [vo]).length = L.length * 2 + 1 := by simp [flat_len]
  obtain ⟨h1, h2, h3⟩ := h
  have hlen1 : (L ++ [(t, vo, vi)]).length = L.length + 1 := by simp
  rw [hlen1, hf] at h1
  rw [hf] at h3
  have hi := h2 (t, vo, vi) (List.mem_append_right _ (List.mem_singleton.2 rfl))
  have hmem : ∀ x ∈ (flat L ++ [vo]) ++ [], ∃ ys, W.ownsRow base 5 1 x ys.length (nums .u8 ys) := fun x hx => by
    have hx2 : x ∈ flat L ∨ x = vo := by simpa using hx
    rcases hx2 with hx2 | rfl
    · obtain ⟨i, hi2, rfl | rfl⟩ := flat_mem hx2
      · exact ⟨_, (h2 i (List.mem_append_left _ hi2)).1⟩
      · exact ⟨_, (h2 i (List.mem_append_left _ hi2)).2⟩
    · exact ⟨_, hi.1⟩
  obtain ⟨v1, w1, r1, r2, r3, r4, r5, r6, r7, r8, r9, r10⟩ := byte_core (b := b) h1 hi.2 hmem h3 hbase ad c' hb hlen ty
  rw [hl] at r4 r5 r6 r7 r8 r10
  have hin : ∀ i ∈ L, i.2.1 ∈ (flat L ++ [vo]) ++ [] ∧ i.2.2 ∈ (flat L ++ [vo]) ++ [] := fun i hi => by
    have e1 : i.2.1 ∈ flat L := List.mem_flatMap.2 ⟨i, hi, by simp [cells2]⟩
    have e2 : i.2.2 ∈ flat L := List.mem_flatMap.2 ⟨i, hi, by simp [cells2]⟩
    constructor <;> simp [e1, e2]
  have hf2 : flat (L ++ [(⟨t.f0, t.f1 ++ [b]⟩, vo, v1)]) = (flat L ++ [vo]) ++ v1 :: [] := by rw [flat_append, flat_one, List.append_cons]
  refine ⟨v1, w1, r1, r2, r3, r4, r5, ⟨?_, fun i hi2 => ?_, ?_⟩, r10⟩
  · rw [hf2, show (L ++ [((⟨t.f0, t.f1 ++ [b]⟩, vo, v1) : TI)]).length = L.length + 1 by simp]
    exact r6
  · rcases List.mem_append.1 hi2 with hi2 | hi2
    · exact ⟨r8 _ (hin i hi2).1 _ (h2 i (List.mem_append_left _ hi2)).1, r8 _ (hin i hi2).2 _ (h2 i (List.mem_append_left _ hi2)).2⟩
    · obtain rfl := List.mem_singleton.1 hi2
      exact ⟨r8 vo (by simp) _ hi.1, r7⟩
  · rw [hf2]
    exact r9
end Go.Proofs.Ytjcaflhlilckgaa.QA
