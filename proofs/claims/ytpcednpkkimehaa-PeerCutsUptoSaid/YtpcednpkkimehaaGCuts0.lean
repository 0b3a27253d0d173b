import Derived.RangeFuncNested
import Derived.RangeFuncBound
import Derived.RangeFuncCalls
import Derived.RangeFuncLeaves
import Derived.Shelf.Abstract
import Derived.Shelf.RegionOpen
import Derived.WalkKit
import Derived.OwnWalkIn
import Derived.TacticsInMore
import Derived.LoopNIn
import Derived.LoopIn
import Derived.Maps.AppendAt
import Derived.StillTailTactics
import Derived.Lib.Hide
import Derived.Lib.LazyBuf
import Derived.Outline
import Derived.Deep.RegionWith
import Derived.Deep.RegionLaw
import Derived.Deep.AppendLies
import Derived.CallsIn

import Derived.Lib.Bytes
import Derived.Deep.DeepCutAuto
import Derived.Lib.SmallJoins
import Derived.Laws.EntriesVeiled
import Derived.Deep.RegionHeld3
import Derived.BigRegion
import Derived.BigQuiet
import Derived.Test.YtpcednpkkimehaaPPl
import Derived.Test.YtpcednpkkimehaaGRf2
import Derived.Test.YtpcednpkkimehaaPCuts
namespace Go.Proofs.Ytpcednpkkimehaa.QA
open Go.RowKit Go.Shelf Go.Proofs.YtpcednpkkimehaaW.PrintWords Go.Proofs.YtpcednpkkimehaaW.PrintLast Go.Proofs.YtpcednpkkimehaaW.PrintMore
attribute [local go_sem] max2_int min2_int max_two min_two max_three min_three max_four min_four   -- for this text's walks alone
set_option linter.unusedVariables false
set_option linter.unusedSimpArgs false
/-! ### a row of one's own of events whose bytes lie in what came in -/
def cells3 (i : Itm) : List Value := [.int .i64 i.1.f0, .int .i64 i.1.f1, .slice i.2.1 i.1.f2.length i.2.2]
theorem reps_items {R : S40 → List Value → Prop} (its : List Itm) (hr : ∀ i ∈ its, R i.1 (cells3 i)) : Reps R 3 (its.map (·.1)) (its.flatMap cells3) := by
  have h : ∀ n, n ≤ its.length → Reps R 3 ((its.take n).map (·.1)) ((its.take n).flatMap cells3) := by
    intro n
    induction n with
    | zero => intro _; simpa using Reps.none R 3
    | succ n ih =>
      intro hn
      rw [List.take_succ_eq_append_getElem (by omega), List.flatMap_append, List.map_append]
      have := hr _ (List.getElem_mem (show n < its.length by omega))
      simpa using (ih (by omega)).snoc this rfl
  have := h its.length (Nat.le_refl _)
  rwa [List.take_length] at this
/-- events of a row of one's own, the bytes of which lie in w0 -/
def Row3 (w0 w : World) (base : Nat) (v : Value) (xs : List S40) : Prop :=
  ∃ its : List Itm, its.map (·.1) = xs ∧ (∀ i ∈ its, i.1.f2.length ≤ i.2.2 ∧ (Kd.int .u8).C w0 i.2.1 i.1.f2.length i.1.f2) ∧ w.ownsRow base 40 3 v xs.length (its.flatMap cells3)
theorem Row3.nil (w0 w : World) (base : Nat) : Row3 w0 w base (.slice none 0 0) [] := ⟨[], rfl, ⟨fun i h => absurd h (List.not_mem_nil), World.ownsRow_nil _ _ _ _⟩⟩
theorem Row3.reads {w0 w : World} {base : Nat} {v : Value} {xs : List S40} (h : Row3 w0 w base v xs) (hb : Below w0.heap.size w0 w) : ∃ A c, v = .slice A xs.length c ∧ xs.length ≤ c ∧ Kd.C k40 w A xs.length xs := by
  obtain ⟨its, rfl, hi, ho⟩ := h
  obtain ⟨A, c, rfl, hr⟩ := own_reads_row ho (reps_items (R := k40.K w) its (fun i h => by have h2 := hi i h; exact k40_mk w i.1 h2.1 (Kd.C_below h2.2 hb))) rfl
  exact ⟨A, c, rfl, by simpa using own_le ho, hr⟩
theorem add_row {w0 w : World} {base : Nat} {v : Value} {xs : List S40} (h : Row3 w0 w base v xs) (hbase : base ≤ w.heap.size) (ad : Addr) (c : Nat) (new : List Itm) (hx : (xs.length + new.length) * 40 ≤ 140737488355328)
    (hnew : ∀ i ∈ new, i.1.f2.length ≤ i.2.2 ∧ (Kd.int .u8).C w0 i.2.1 i.1.f2.length i.1.f2) (hcell : ∀ j u, (new.flatMap cells3)[j]? = some u → w.cell? (ad.add j) = some u) (ty : TypeId) :
    ∃ v' w', (Builtin.append_ #[22, 22] ty #[v, .slice (some ad) new.length c]).run Try.prog w = .ok v' w' ∧ Row3 w0 w' base v' (xs ++ new.map (·.1)) ∧ w.grownBy w' v.ownBlock := by
  obtain ⟨its, rfl, hi, ho⟩ := h
  obtain ⟨i0, hinf, hzz⟩ := Option.map_eq_some_iff.1 info40
  simp only [Prod.mk.injEq] at hzz
  obtain ⟨hz0, hz1, hz2⟩ := hzz
  have hl : (new.flatMap cells3).length = new.length * 3 := by
    rw [List.length_flatMap]
    have : ∀ l : List Itm, (l.map fun i => (cells3 i).length).sum = l.length * 3 := by
      intro l
      induction l with
      | nil => rfl
      | cons a r ih => rw [List.map_cons, List.sum_cons, ih, List.length_cons]; show 3 + _ = _; omega
    exact this new
  have h1 : ∀ u ∈ new.flatMap cells3, u.oneCell' = true := fun u hu => by
    obtain ⟨i, _, hu⟩ := List.mem_flatMap.1 hu
    unfold cells3 at hu
    simp only [List.mem_cons, List.not_mem_nil, or_false] at hu
    rcases hu with rfl | rfl | rfl <;> rfl
  obtain ⟨v1, w1, hrun, h2, h3, _⟩ := run_append_own (P := Try.prog) w base 22 ty 40 i0 _ 3 40 Try.underlying22 hinf hz0 hz1 hz2 rfl (by decide) v _ _ ho ad new.length c _ hl hcell h1 (by simp only [maxLen]; omega) hx hbase
  refine ⟨v1, w1, hrun, ⟨its ++ new, by rw [List.map_append], fun i h => ?_, ?_⟩, h3⟩
  · rcases List.mem_append.1 h with h | h
    · exact hi i h
    · exact hnew i h
  · have e : (its.map (·.1) ++ new.map (·.1)).length = (its.map (·.1)).length + new.length := by simp
    rw [List.flatMap_append, e]
    exact h2
theorem Row3.below {w0 w w' : World} {base : Nat} {v : Value} {xs : List S40} (h : Row3 w0 w base v xs) (hb : Below w.heap.size w w') : Row3 w0 w' base v xs := by
  obtain ⟨its, e, hi, ho⟩ := h
  exact ⟨its, e, hi, own_move ho fun k hk => hb.block k (by obtain ⟨c, hc⟩ := own_typed ho k hk; exact (Array.getElem?_eq_some_iff.1 hc).1)⟩
theorem Row3.base_ {w0 w : World} {base : Nat} {v : Value} {xs : List S40} (h : Row3 w0 w base v xs) : ∀ k, v.ownBlock = some k → base ≤ k := by
  obtain ⟨its, e, hi, ho⟩ := h
  exact own_base ho
theorem Row3.slice {w0 w : World} {base : Nat} {v : Value} {xs : List S40} (h : Row3 w0 w base v xs) : ∃ A c, v = .slice A xs.length c := by
  obtain ⟨its, e, hi, ho⟩ := h
  exact own_slice ho
theorem Row3.lt {w0 w : World} {base : Nat} {v : Value} {xs : List S40} (h : Row3 w0 w base v xs) : ∀ k, v.ownBlock = some k → k < w.heap.size := by
  obtain ⟨its, e, hi, ho⟩ := h
  exact fun k hk => by obtain ⟨c, hc⟩ := own_typed ho k hk; exact (Array.getElem?_eq_some_iff.1 hc).1
theorem three_items {w0 : World} {x : S40} {A2 : Option Addr} {c2 : Nat} (hC : (Kd.int .u8).C w0 A2 x.f2.length x.f2) (hc : x.f2.length ≤ c2) (H : Nat) (hH : H = x.f2.length / 2) :
    ∃ A3, (∀ W : World, (Instr.slice 31 (.slice A2 x.f2.length c2) none (some (.int .i64 (H : Int))) none).run Try.prog W = .ok (.slice A2 (x.f2.take (H)).length c2) W) ∧
      (∀ W : World, (Instr.slice 31 (.slice A2 x.f2.length c2) (some (.int .i64 (H : Int))) none none).run Try.prog W = .ok (.slice A3 (x.f2.drop (H)).length (c2 - H)) W) ∧
      ∀ i ∈ ([((⟨x.f0, 0, x.f2.take (H)⟩ : S40), A2, c2), (⟨1 - x.f0, 0, []⟩, none, 0), (⟨x.f0, 0, x.f2.drop (H)⟩, A3, c2 - H)] : List Itm), i.1.f2.length ≤ i.2.2 ∧ (Kd.int .u8).C w0 i.2.1 i.1.f2.length i.1.f2 := by
  subst hH
  obtain ⟨i, hi0, hsz⟩ := Option.map_eq_some_iff.1 (show (Try.prog.info? 5).map (·.size) = some 1 by kernel_rfl)
  have hF := Kd.F_mid (lo := x.f2.length / 2) (hi := x.f2.length) (c := c2) (Kd.C_F (Kd.heap_int _) hC) (by omega) (Nat.le_refl _) hc
  rw [List.take_length, show (Kd.int .u8).sz = 1 from rfl, Nat.mul_one] at hF
  refine ⟨if c2 = x.f2.length / 2 then A2 else A2.map (·.add (x.f2.length / 2)), fun W => ?_, fun W => ?_, fun i hi => ?_⟩
  rotate_left
  · have := cut_from (P := Try.prog) 31 5 .i64 Try.underlying31 hi0 1 hsz A2 x.f2.length c2 ((x.f2.length / 2 : Nat) : Int) (by omega) (by omega) W
    rw [Int.toNat_natCast, Nat.mul_one] at this
    rw [List.length_drop]
    exact this
  · simp only [List.mem_cons, List.not_mem_nil, or_false] at hi
    rcases hi with rfl | rfl | rfl
    · exact ⟨by show (x.f2.take _).length ≤ c2; rw [List.length_take]; omega, by show (Kd.int .u8).C w0 A2 (x.f2.take (x.f2.length / 2)).length (x.f2.take (x.f2.length / 2)); exact Kd.C_take hC (by omega)⟩
    · exact ⟨Nat.le_refl _, Kd.F_now (Kd.R_F (Kd.R_nil (Kd.int .u8) 5 w0 0 (fun _ => True)))⟩
    · refine ⟨by show (x.f2.drop _).length ≤ c2 - _; rw [List.length_drop]; omega, ?_⟩
      show (Kd.int .u8).C w0 _ (x.f2.drop _).length (x.f2.drop _)
      have h5 := Kd.F_now hF
      rwa [show (x.f2.drop (x.f2.length / 2)).length = x.f2.length - x.f2.length / 2 from List.length_drop ..] at h5 ⊢
  · have := cut_to (P := Try.prog) 31 5 .i64 Try.underlying31 hi0 A2 x.f2.length c2 ((x.f2.length / 2 : Nat) : Int) (by omega) (by omega) hc W
    rw [Int.toNat_natCast] at this
    rw [List.length_take, Nat.min_eq_left (by omega)]
    exact this
theorem chk_mem (l : List S40) : ∀ a, chk l a = 0 → ∀ y ∈ l, y.f0 = 0 ∨ y.f0 = 1 := by
  induction l with
  | nil => intro a _ y h; cases h
  | cons x r ih =>
    intro a h y hy
    unfold chk at h
    split at h
    · cases h
    · rename_i h1
      split at h
      · cases h
      · rcases List.mem_cons.1 hy with rfl | hy
        · omega
        · exact ih _ h y hy
theorem chkN_mem {l : List S40} (h : chkN l = 0) (h60 : l.length ≤ 60) : ∀ y ∈ l, y.f0 = 0 ∨ y.f0 = 1 := by
  unfold chkN at h
  rw [if_neg (by omega)] at h
  exact chk_mem l 0 h
/-- an append whose run is known, in a region that draws -/
theorem step_append_run3 {P : Program} {ops : Array Oper} {o : Oper} {a : Act} {W : World} {Kc : Act → World → Prop} {Q : Exit → Act → World → Prop} (hw : Region.wanted o (yielded ops a.tmps) = true) (s x : Operand) (t : TypeId)
    (ho : o.op = .call { callee := .builtin .append, args := #[s, x], argTypes := #[t, t] }) (vs vx : Value) (hs : a.eval s = vs) (hx : a.eval x = vx) (v1 : Value) (w1 : World) (hr : (Builtin.append_ #[t, t] o.type #[vs, vx]).run P W = .ok v1 w1)
    (h : Kc (a.put o.dst v1) w1) : if Region.wanted o (yielded ops a.tmps) = true then Oper.wp P o a W Kc Q else Kc (a.put o.dst undef) W := by
  rw [if_pos hw]
  unfold Oper.wp execOp
  simp only [ho, resolve, invoke, builtin, Sem.run_bind, Sem.run_pure, Result.andThen_ok, List.map_toArray, List.map_cons, List.map_nil, hs, hx, hr]
  exact h
end Go.Proofs.Ytpcednpkkimehaa.QA
