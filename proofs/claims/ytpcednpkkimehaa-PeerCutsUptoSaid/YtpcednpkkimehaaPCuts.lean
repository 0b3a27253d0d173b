import Derived.RangeFuncNested
import Derived.RangeFuncBound
import Derived.RangeFuncCalls
import Derived.RangeFuncLeaves
import Derived.Shelf.Abstract
import Derived.Shelf.RegionOpen
import Derived.WalkKit
import Derived.OwnWalkIn
import Derived.TacticsInMore
import Derived.LoopNIn
import Derived.LoopIn
import Derived.Maps.AppendAt
import Derived.StillTailTactics
import Derived.Lib.Hide
import Derived.Lib.LazyBuf
import Derived.Outline
import Derived.Deep.RegionWith
import Derived.Deep.RegionLaw
import Derived.Deep.AppendLies
import Derived.CallsIn

import Derived.Lib.Bytes
import Derived.Deep.DeepCutAuto
import Derived.Lib.SmallJoins
import Derived.Laws.EntriesVeiled
import Derived.Deep.RegionHeld3
import Derived.BigRegion
import Derived.BigQuiet
import Derived.Test.YtpcednpkkimehaaPPl
import Derived.Test.YtpcednpkkimehaaGRf2
import Derived.Test.YtpcednpkkimehaaPPeer
namespace Go.Proofs.Ytpcednpkkimehaa.QA
open Go.RowKit Go.Shelf Go.Proofs.YtpcednpkkimehaaW.PrintWords Go.Proofs.YtpcednpkkimehaaW.PrintLast Go.Proofs.YtpcednpkkimehaaW.PrintMore
attribute [local go_sem] max2_int min2_int max_two min_two max_three min_three max_four min_four   -- for this text's walks alone
set_option linter.unusedVariables false
set_option linter.unusedSimpArgs false
/-! ### plain: the events cut in two, an empty one of the other side between -/
def part3 (x : S40) : List S40 := [⟨x.f0, 0, x.f2.take (x.f2.length / 2)⟩, ⟨1 - x.f0, 0, []⟩, ⟨x.f0, 0, x.f2.drop (x.f2.length / 2)⟩]
def parts (l : List S40) : List S40 := l.flatMap part3
theorem parts_cons (x : S40) (r : List S40) : parts (x :: r) = ⟨x.f0, 0, x.f2.take (x.f2.length / 2)⟩ :: ⟨1 - x.f0, 0, []⟩ :: ⟨x.f0, 0, x.f2.drop (x.f2.length / 2)⟩ :: parts r := rfl
theorem parts_append (l m : List S40) : parts (l ++ m) = parts l ++ parts m := by simp [parts]
theorem parts_len (l : List S40) : (parts l).length = 3 * l.length := by
  induction l with
  | nil => rfl
  | cons x r ih => rw [parts_cons]; simp only [List.length_cons, ih]; omega
theorem way_parts (d : Int) (l : List S40) : way d (parts l) = way d l := by
  induction l with
  | nil => rfl
  | cons x r ih =>
    rw [parts_cons, way_cons, way_cons, way_cons, way_cons, ih]
    by_cases h : x.f0 = d
    · simp only [if_pos h, ite_self, List.nil_append]
      rw [← List.append_assoc, List.take_append_drop]
    · simp only [if_neg h, ite_self, List.nil_append]
theorem due'_cons_congr (t : Int) (e : S40) {L L' : List S40} (h : ∀ m n, due' t m n L = due' t m n L') (m n : Nat) : due' t m n (e :: L) = due' t m n (e :: L') := by
  simp only [due', h]
theorem due'_parts (t : Int) (l : List S40) : ∀ m n, due' t m n (parts l) = due' t m n l := by
  induction l with
  | nil => intro m n; rfl
  | cons x r ih =>
    intro m n
    rw [parts_cons, due'_cons_congr t _ (fun m n => due'_empty t (e := ⟨1 - x.f0, 0, []⟩) rfl _ m n), due'_join t (p := ⟨x.f0, 0, x.f2.take (x.f2.length / 2)⟩) (e := ⟨x.f0, 0, x.f2.drop (x.f2.length / 2)⟩) rfl]
    simp only [List.take_append_drop]
    simp only [due', ih]
theorem tot_chk (l : List S40) : ∀ a, chk l a = 0 → a ≤ 262144 → a + tot l ≤ 262144 := by
  induction l with
  | nil => intro a _ h; simpa [tot] using h
  | cons x r ih =>
    intro a h ha
    unfold chk at h
    split at h
    · cases h
    · split at h
      · cases h
      · have := ih _ h (by omega)
        rw [tot_cons]
        omega
theorem chk_parts (l : List S40) : ∀ a, chk l a = 0 → chk (parts l) a = 0 := by
  induction l with
  | nil => intro a h; exact h
  | cons x r ih =>
    intro a h
    unfold chk at h
    split at h
    · cases h
    · rename_i h1
      split at h
      · cases h
      · rename_i h2
        have h3 := ih _ h
        rw [parts_cons]
        simp only [chk, List.length_take, List.length_drop, List.length_nil, Nat.add_zero]
        rw [if_neg h1, if_neg (by omega), if_neg (by omega), if_neg (by omega), if_neg h1, if_neg (by omega)]
        rw [show a + min (x.f2.length / 2) x.f2.length + (x.f2.length - x.f2.length / 2) = a + x.f2.length by omega]
        exact h3
theorem chkN_parts {l : List S40} (h : chkN l = 0) (h60 : l.length ≤ 60) : chkN (parts l) = 0 := by
  unfold chkN at h ⊢
  rw [if_neg (by omega)] at h
  rw [if_neg (by rw [parts_len]; omega)]
  exact chk_parts l 0 h
theorem tot_parts (l : List S40) : tot (parts l) = tot l := by
  induction l with
  | nil => rfl
  | cons x r ih =>
    rw [parts_cons, tot_cons, tot_cons, tot_cons, tot_cons, ih]
    simp only [List.length_take, List.length_drop, List.length_nil]
    omega
theorem small_of (l : List S40) : (l.map fun x => x.f2.length + 4).sum = tot l + 4 * l.length := by
  induction l with
  | nil => rfl
  | cons x r ih => rw [List.map_cons, List.sum_cons, ih, tot_cons, List.length_cons]; omega
theorem small_parts {l : List S40} (h : chkN l = 0) (h60 : l.length ≤ 60) : small (parts l) := by
  unfold chkN at h
  rw [if_neg (by omega)] at h
  have h1 := tot_chk l 0 h (by omega)
  unfold small
  rw [small_of, tot_parts, parts_len]
  omega
theorem peek_parts (l : List S40) (fin : Bool) (s : Pz) (n : Int) : s.peek (Pc.of (parts l) fin) n = s.peek (Pc.of l fin) n := by
  rw [← rpeek_eq, ← rpeek_eq, due'_parts]
  unfold rpeek
  rw [way_parts]
theorem over_parts (l : List S40) (fin : Bool) (s : Pz) : s.over (Pc.of (parts l) fin) = s.over (Pc.of l fin) := by
  show (fin && (decide (s.said = (way 0 (parts l)).length) && decide ((way 1 (parts l)).length ≤ s.heard))) = (fin && (decide (s.said = (way 0 l).length) && decide ((way 1 l).length ≤ s.heard)))
  rw [way_parts, way_parts]
theorem due_parts (t : Int) (l : List S40) : due t 0 0 (mrg (parts l)) = due t 0 0 (mrg l) := by rw [due_mrg, due_mrg, due'_parts]
end Go.Proofs.Ytpcednpkkimehaa.QA
