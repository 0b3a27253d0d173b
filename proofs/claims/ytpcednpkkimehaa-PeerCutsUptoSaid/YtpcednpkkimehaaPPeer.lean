import Derived.RangeFuncNested
import Derived.RangeFuncBound
import Derived.RangeFuncCalls
import Derived.RangeFuncLeaves
import Derived.Shelf.Abstract
import Derived.Shelf.RegionOpen
import Derived.WalkKit
import Derived.OwnWalkIn
import Derived.TacticsInMore
import Derived.LoopNIn
import Derived.LoopIn
import Derived.Maps.AppendAt
import Derived.StillTailTactics
import Derived.Lib.Hide
import Derived.Lib.LazyBuf
import Derived.Outline
import Derived.Deep.RegionWith
import Derived.Deep.RegionLaw
import Derived.Deep.AppendLies
import Derived.CallsIn
import Derived.Test.YtpcednpkkimehaaQAx16
import Derived.Lib.Bytes
import Derived.Deep.DeepCutAuto
import Derived.Lib.SmallJoins
import Derived.Laws.EntriesVeiled
import Derived.Deep.RegionHeld3
import Derived.BigRegion
import Derived.BigQuiet
import Derived.Test.YtpcednpkkimehaaPPl
import Derived.Test.YtpcednpkkimehaaGWrong
namespace Go.Proofs.Ytpcednpkkimehaa.QA
open Go.RowKit Go.Shelf Go.Proofs.YtpcednpkkimehaaW.PrintWords Go.Proofs.YtpcednpkkimehaaW.PrintLast Go.Proofs.YtpcednpkkimehaaW.PrintMore
attribute [local go_sem] max2_int min2_int max_two min_two max_three min_three max_four min_four   -- for this text's walks alone
set_option linter.unusedVariables false
set_option linter.unusedSimpArgs false
/-! ### plain: what is due hangs on how many bytes of either side stand ahead -/
theorem due'_append (t : Int) (l2 : List S40) : ∀ (l1 : List S40) (m n : Nat), due' t m n (l1 ++ l2) = due' t (m + (way 1 l1).length) (due' t m n l1) l2 := by
  intro l1
  induction l1 with
  | nil => intro m n; simp [due', way]
  | cons e r ih =>
    intro m n
    rw [List.cons_append, way_cons, List.length_append]
    simp only [due']
    by_cases h1 : e.f0 = 1
    · rw [if_pos h1, if_pos h1, if_pos h1, ih, Nat.add_assoc]
    · rw [if_neg h1, if_neg h1, if_neg h1, List.length_nil, Nat.zero_add]
      by_cases h0 : e.f0 = 0
      · rw [if_pos h0, if_pos h0]
        by_cases hm : (m : Int) ≤ t
        · rw [if_pos hm, if_pos hm, ih]
        · rw [if_neg hm, if_neg hm, ih]
      · rw [if_neg h0, if_neg h0, ih]
theorem due'_empty (t : Int) {e : S40} (h : e.f2.length = 0) (r : List S40) (m n : Nat) : due' t m n (e :: r) = due' t m n r := by
  simp only [due', h, Nat.add_zero, ite_self]
theorem due'_join (t : Int) {p e : S40} (h : p.f0 = e.f0) (r : List S40) (m n : Nat) : due' t m n (p :: e :: r) = due' t m n (⟨p.f0, p.f1, p.f2 ++ e.f2⟩ :: r) := by
  simp only [due', ← h, List.length_append]
  by_cases h1 : p.f0 = 1
  · simp only [if_pos h1, Nat.add_assoc]
  · simp only [if_neg h1]
    by_cases h0 : p.f0 = 0
    · simp only [if_pos h0]
      by_cases hm : (m : Int) ≤ t
      · simp only [if_pos hm, Nat.add_assoc]
      · simp only [if_neg hm]
    · simp only [if_neg h0]
theorem due_mrg (t : Int) (l : List S40) : due t 0 0 (mrg l) = due' t 0 0 l := by
  rw [due_eq]
  have := mrg_ind (Q := fun out r => due' t 0 0 (out ++ r) = due' t 0 0 l) l rfl (fun out e r h => by
    rw [← h]
    rcases mstep_cases out e with ⟨h0, hm⟩ | ⟨h0, ⟨rfl, hm⟩ | ⟨L, p, rfl, ⟨hp, hm⟩ | ⟨hp, hm⟩⟩⟩
    · rw [hm, due'_append, due'_append, due'_empty t h0]
    · rw [hm]; rfl
    · rw [hm, List.append_assoc, List.append_assoc, due'_append t ([_] ++ r) L, due'_append t ([p] ++ e :: r) L]
      exact (due'_join t hp r _ _).symm
    · rw [hm, List.append_assoc]; rfl)
  rwa [List.append_nil] at this
theorem due_out (t : Int) (l : List S40) : due t 0 0 (mrg l) ≤ (way 0 l).length := by
  have := due_le t (mrg l) 0 0
  rw [way_mrg] at this
  omega
theorem str_take (xs : List Int) (q : Nat) : (strOfNums xs).extract 0 q = strOfNums (xs.take q) := by
  apply ByteArray.ext
  apply Array.ext'
  simp [strOfNums, List.map_take]
/-- are they more than are looked at -/
theorem great_l0 (acts : List S42) (ha : acts.length ≤ 60) : ∀ d i k, i + d = acts.length → d < k → ∃ r, cuecardlaw20_great.l0 k acts (acts.length : Int) (i : Int) = some r ∧ (r = false → ∀ a ∈ acts.drop i, a.f2.length ≤ 100) := by
  intro d
  induction d with
  | zero =>
    intro i k hi hk
    obtain ⟨k, rfl⟩ : ∃ m, k = m + 1 := ⟨k - 1, by omega⟩
    refine ⟨false, ?_, fun _ a h => ?_⟩
    · simp only [cuecardlaw20_great.l0]; rw [if_neg (by omega)]
    · rw [List.drop_of_length_le (by omega)] at h; cases h
  | succ d ih =>
    intro i k hi hk
    obtain ⟨k, rfl⟩ : ∃ m, k = m + 1 := ⟨k - 1, by omega⟩
    have hlt : i < acts.length := by omega
    have hrd : rd_T42 acts (i : Int) = acts[i] := by
      unfold rd_T42
      rw [Int.toNat_natCast, List.getD_eq_getElem?_getD, List.getElem?_eq_getElem hlt]
      rfl
    simp only [cuecardlaw20_great.l0, hrd]
    rw [if_pos (by omega), if_pos (by omega), if_pos (by omega)]
    by_cases h : (acts[i].f2.length : Int) > 100
    · rw [if_pos h]; exact ⟨true, rfl, fun h => by cases h⟩
    · rw [if_neg h, wr_i (by omega)]
      obtain ⟨r, h1, h2⟩ := ih (i + 1) k (by omega) (by omega)
      refine ⟨r, h1, fun hr a ha => ?_⟩
      rw [List.drop_eq_getElem_cons hlt] at ha
      rcases List.mem_cons.1 ha with rfl | ha
      · omega
      · exact h2 hr a ha
theorem great_f (l : List S40) (acts : List S42) : ∃ r, cuecardlaw20_great.f (acts.length + 2) l acts = some r ∧ (r = false → acts.length ≤ 60 ∧ l.length ≤ 60 ∧ ∀ a ∈ acts, a.f2.length ≤ 100) := by
  unfold cuecardlaw20_great.f
  by_cases h1 : (acts.length : Int) > 60
  · rw [if_pos h1]
    exact ⟨true, by simp [cuecardlaw20_great.j0], fun h => by cases h⟩
  · rw [if_neg h1]
    by_cases h2 : (l.length : Int) > 60
    · exact ⟨true, by simp only [cuecardlaw20_great.j0]; rw [if_pos (decide_eq_true h2)], fun h => by cases h⟩
    · obtain ⟨r, h3, h4⟩ := great_l0 acts (by omega) acts.length 0 (acts.length + 1) (by omega) (by omega)
      exact ⟨r, by simp only [cuecardlaw20_great.j0]; rw [if_neg (by simp; omega)]; exact h3, fun hr => ⟨by omega, by omega, h4 hr⟩⟩
end Go.Proofs.Ytpcednpkkimehaa.QA
