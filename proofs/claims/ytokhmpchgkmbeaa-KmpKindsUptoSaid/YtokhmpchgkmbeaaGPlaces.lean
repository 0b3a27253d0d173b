import Derived.RangeFuncNested
import Derived.RangeFuncBound
import Derived.RangeFuncCalls
import Derived.RangeFuncLeaves
import Derived.Shelf.Abstract
import Derived.Shelf.RegionOpen
import Derived.WalkKit
import Derived.OwnWalkIn
import Derived.TacticsInMore
import Derived.LoopNIn
import Derived.LoopIn
import Derived.Maps.AppendAt
import Derived.StillTailTactics
import Derived.Lib.Hide
import Derived.Outline
import Derived.Deep.RegionWith
import Derived.Deep.RegionLaw
import Derived.Deep.AppendLies
import Derived.Test.YtokhmpchgkmbeaaQAx1
import Derived.Test.YtokhmpchgkmbeaaQAx2
import Derived.Test.YtokhmpchgkmbeaaGKmp
import Derived.Test.YtokhmpchgkmbeaaGAllIt
namespace Go.Proofs.Ytokhmpchgkmbeaa.QA
open Go.RowKit Go.Shelf Go.Proofs.YtokhmpchgkmbeaaW.PrintWords Go.Proofs.YtokhmpchgkmbeaaW.PrintLast Go.Proofs.YtokhmpchgkmbeaaW.PrintMore
set_option linter.unusedVariables false
set_option linter.unusedSimpArgs false
/-! ### places -/
/-- the pattern stands at a place -/
def stands (text p : List Int) (i : Nat) : Bool := (text.drop i).take p.length == p
/-- all places -/
def places (text p : List Int) : List Int := ((List.range (text.length + 1)).filter (stands text p)).map fun (i : Nat) => (i : Int)
theorem stands_le {text p : List Int} {i : Nat} (h : stands text p i = true) (hi : i ≤ text.length) : i + p.length ≤ text.length := by
  have := congrArg List.length (beq_iff_eq.1 h)
  rw [List.length_take, List.length_drop] at this
  omega
/-- it ends where it stands, so many things before -/
theorem ends_iff (text p : List Int) {i : Nat} (h : i + p.length ≤ text.length) : p <:+ text.take (i + p.length) ↔ stands text p i = true := by
  have e : text.take (i + p.length) = text.take i ++ (text.drop i).take p.length := by rw [List.take_add]
  unfold stands
  rw [beq_iff_eq, e]
  constructor
  · intro hs
    have h2 := List.suffix_append (text.take i) ((text.drop i).take p.length)
    have hl : ((text.drop i).take p.length).length = p.length := by rw [List.length_take, List.length_drop]; omega
    exact (List.suffix_of_suffix_length_le h2 hs (by omega)).eq_of_length hl
  · intro hs
    rw [hs]
    exact List.suffix_append _ _
/-- how much of the pattern stands at the end, behind so many things -/
noncomputable def atOf (text p : List Int) (i : Nat) : Int := (best p (text.take i) : Int)
theorem atOf_full {text p : List Int} {i : Nat} : (atOf text p i == (p.length : Int)) = true ↔ p <:+ text.take i := by
  unfold atOf
  have hb := best_is p (text.take i)
  rw [beq_iff_eq]
  constructor
  · intro h
    have h2 := hb.1.2
    rw [show best p (text.take i) = p.length by omega, List.take_length] at h2
    exact h2
  · intro h
    have := hb.2 p.length ⟨Nat.le_refl _, by rw [List.take_length]; exact h⟩
    have := hb.1.1
    omega
theorem atOf_zero (text p : List Int) : atOf text p 0 = 0 := by
  unfold atOf
  have := bord_len (best_is p (text.take 0)).1
  simp at this ⊢
  omega
theorem placesUpto_eq (text p : List Int) : placesUpto p (atOf text p) text.length = places text p := by
  unfold placesUpto places
  rcases p with _ | ⟨y, q⟩
  · rw [if_pos (show ([] : List Int).length = 0 from rfl), List.range_succ_eq_map, List.filter_cons_of_pos (by simp [stands]), List.map_cons, List.filter_map, List.map_map]
    rw [List.filter_eq_self.2 (fun i _ => atOf_full.2 (List.nil_suffix)), List.filter_eq_self.2 (fun i _ => by simp [stands])]
    simp [Function.comp_def]
  · rw [if_neg (by simp), List.nil_append]
    generalize hp : y :: q = p
    have hm : 1 ≤ p.length := by rw [← hp]; simp
    clear hp y q
    rcases Nat.lt_or_ge text.length p.length with h | h
    · rw [List.filter_eq_nil_iff.2, List.filter_eq_nil_iff.2]
      · rfl
      · intro i hi hs
        rw [List.mem_range] at hi
        have := stands_le hs (by omega)
        omega
      · intro i hi hs
        have := (atOf_full.1 hs).length_le
        rw [List.length_take] at this
        omega
    · obtain ⟨d, hd⟩ := Nat.exists_eq_add_of_le h
      have e1 : List.range text.length = List.range (p.length - 1) ++ (List.range (d + 1)).map (fun i => p.length - 1 + i) := by
        rw [← List.range_add]; congr 1; omega
      have e2 : List.range (text.length + 1) = List.range (d + 1) ++ (List.range p.length).map (fun i => d + 1 + i) := by
        rw [← List.range_add]; congr 1; omega
      rw [e1, e2, List.filter_append, List.filter_append, List.filter_map, List.filter_map]
      rw [List.filter_eq_nil_iff.2 (fun i hi hs => by
        rw [List.mem_range] at hi
        have := (atOf_full.1 hs).length_le
        rw [List.length_take] at this
        omega), List.nil_append]
      have e4 : (List.range p.length).filter (stands text p ∘ fun i => d + 1 + i) = [] := List.filter_eq_nil_iff.2 (fun i hi hs => by
        rw [List.mem_range] at hi
        have hs : stands text p (d + 1 + i) = true := hs
        have := stands_le hs (by omega)
        omega)
      rw [e4, List.map_nil, List.append_nil, List.map_map]
      have e3 : (List.range (d + 1)).filter ((fun i => atOf text p (i + 1) == (p.length : Int)) ∘ fun i => p.length - 1 + i) = (List.range (d + 1)).filter (stands text p) := by
        refine List.filter_congr fun i hi => ?_
        rw [List.mem_range] at hi
        have e : p.length - 1 + i + 1 = i + p.length := by omega
        have := ends_iff text p (i := i) (by omega)
        rw [Bool.eq_iff_iff, ← this]
        show (atOf text p (p.length - 1 + i + 1) == (p.length : Int)) = true ↔ _
        rw [e, atOf_full]
      rw [e3]
      refine List.map_congr_left fun i _ => ?_
      show ((p.length - 1 + i : Nat) : Int) + 1 - (p.length : Int) = (i : Int)
      omega
/-- one step of a search -/
theorem step_ok {text p back : List Int} (hp : p.length ≤ 1048576) (ht : Tab p back p.length) {K : Nat} (hK : 2 * p.length + 2 ≤ K) {i : Nat} {x : Int} (hx : text[i]? = some x) : kmp_next_int.f K p back (atOf text p i) x = some (atOf text p (i + 1)) := by
  have hb := best_is p (text.take i)
  have hc := hb.1.1
  obtain ⟨r, hr, hbest⟩ := next_ok p back (text.take i) x hp (best p (text.take i)) K hb.1 (tab_mono ht hc) (fun j hj _ h => by have := hb.2 j h; omega) (by omega)
  rw [← take_snoc hx] at hbest
  unfold atOf
  rw [hr, best_eq hbest]
end Go.Proofs.Ytokhmpchgkmbeaa.QA
