import Derived.Lib.Hide
import Derived.Test.YtjcaflhlilckgaaPShape
import Derived.Test.YtjcaflhlilckgaaQAx13
import Derived.Test.YtjcaflhlilckgaaQAx14
import Derived.Test.YtjcaflhlilckgaaQAx15
namespace Go.Proofs.Ytjcaflhlilckgaa.QA
open Go.RowKit Go.Proofs.YtjcaflhlilckgaaW.PrintWords Go.Proofs.YtjcaflhlilckgaaW.PrintMore
set_option linter.unusedVariables false
set_option linter.unusedSimpArgs false
theorem rtold_l0 (a : Int) (l : List S33) (hl : l.length ≤ 1048576) (d : Nat) : ∀ (i k n : Nat), i + d = l.length → d + 1 ≤ k → n + ti1 (l.drop i) ≤ 1048576 →
    cuecardref10_Told.l0 k a l (n : Int) (i : Int) = some ((n + ti1 ((l.drop i).take (a - (i : Int)).toNat) : Nat) : Int) := by
  induction d with
  | zero =>
    intro i k n hi hk hn
    obtain ⟨k, rfl⟩ : ∃ m, k = m + 1 := ⟨k - 1, by omega⟩
    obtain rfl : i = l.length := by omega
    rw [cuecardref10_Told.l0, if_neg (by omega), List.drop_length]
    simp [ti1]
  | succ d ih =>
    intro i k n hi hk hn
    obtain ⟨k, rfl⟩ : ∃ m, k = m + 1 := ⟨k - 1, by omega⟩
    have hlt : i < l.length := by omega
    rw [List.drop_eq_getElem_cons hlt, ti1_cons] at hn
    rw [List.drop_eq_getElem_cons hlt, cuecardref10_Told.l0, if_pos (by omega), rdT33 l i hlt, wr_i (by omega)]
    by_cases h : (i : Int) < a
    · obtain ⟨c, hc⟩ : ∃ c, (a - (i : Int)).toNat = c + 1 := ⟨(a - (i : Int)).toNat - 1, by omega⟩
      have hc2 : (a - ((i + 1 : Nat) : Int)).toNat = c := by omega
      rw [if_pos h, if_pos (by omega), wr_add (by omega), ih (i + 1) k (n + l[i].f1.length) (by omega) (by omega) (by omega), hc, hc2, List.take_succ_cons, ti1_cons, Nat.add_assoc]
    · have hc : (a - (i : Int)).toNat = 0 := by omega
      have hc2 : (a - ((i + 1 : Nat) : Int)).toNat = 0 := by omega
      rw [if_neg h, ih (i + 1) k n (by omega) (by omega) (by omega), hc, hc2, List.take_zero, List.take_zero]
theorem rseen_l0 (a : Int) (l : List S33) (hl : l.length ≤ 1048576) (d : Nat) : ∀ (i k n : Nat), i + d = l.length → d + 1 ≤ k → n + to1 (l.drop i) ≤ 1048576 →
    cuecardref10_Seen.l0 k a l (n : Int) (i : Int) = some ((n + to1 ((l.drop i).take (a + 1 - (i : Int)).toNat) : Nat) : Int) := by
  induction d with
  | zero =>
    intro i k n hi hk hn
    obtain ⟨k, rfl⟩ : ∃ m, k = m + 1 := ⟨k - 1, by omega⟩
    obtain rfl : i = l.length := by omega
    rw [cuecardref10_Seen.l0, if_neg (by omega), List.drop_length]
    simp [to1]
  | succ d ih =>
    intro i k n hi hk hn
    obtain ⟨k, rfl⟩ : ∃ m, k = m + 1 := ⟨k - 1, by omega⟩
    have hlt : i < l.length := by omega
    rw [List.drop_eq_getElem_cons hlt, to1_cons] at hn
    rw [List.drop_eq_getElem_cons hlt, cuecardref10_Seen.l0, if_pos (by omega), rdT33 l i hlt, wr_i (by omega)]
    by_cases h : (i : Int) ≤ a
    · obtain ⟨c, hc⟩ : ∃ c, (a + 1 - (i : Int)).toNat = c + 1 := ⟨(a + 1 - (i : Int)).toNat - 1, by omega⟩
      have hc2 : (a + 1 - ((i + 1 : Nat) : Int)).toNat = c := by omega
      rw [if_pos h, if_pos (by omega), wr_add (by omega), ih (i + 1) k (n + l[i].f0.length) (by omega) (by omega) (by omega), hc, hc2, List.take_succ_cons, to1_cons, Nat.add_assoc]
    · have hc : (a + 1 - (i : Int)).toNat = 0 := by omega
      have hc2 : (a + 1 - ((i + 1 : Nat) : Int)).toNat = 0 := by omega
      rw [if_neg h, ih (i + 1) k n (by omega) (by omega) (by omega), hc, hc2, List.take_zero, List.take_zero]
theorem take_toNat {α : Type} (l : List α) (a b : Nat) (h : a = b ∨ l.length ≤ a ∧ l.length ≤ b) : l.take a = l.take b := by
  rcases h with rfl | ⟨h1, h2⟩
  · rfl
  · rw [List.take_of_length_le h1, List.take_of_length_le h2]
theorem same4_l0 (l : List S37) (hl : l.length ≤ 3000000) (d : Nat) : ∀ (i k : Nat), i + d = l.length → d + 1 ≤ k → cuecardref04_Same.l0 k l l (i : Int) = some true := by
  induction d with
  | zero =>
    intro i k hi hk
    obtain ⟨k, rfl⟩ : ∃ m, k = m + 1 := ⟨k - 1, by omega⟩
    rw [cuecardref04_Same.l0, if_neg (by omega)]
  | succ d ih =>
    intro i k hi hk
    obtain ⟨k, rfl⟩ : ∃ m, k = m + 1 := ⟨k - 1, by omega⟩
    rw [cuecardref04_Same.l0, if_pos (by omega), if_pos (by omega), if_pos (by omega), if_pos rfl, if_pos rfl, if_pos rfl, wr_i (by omega)]
    exact ih (i + 1) k (by omega) (by omega)
/-- turns of small bulk -/
def smallT (l : List S33) : Prop := (l.map fun x => x.f0.length + x.f1.length + 3).sum ≤ 1048576
theorem smallT_len {l : List S33} (h : smallT l) : to1 l + ti1 l + 3 * l.length ≤ 1048576 := by
  unfold smallT at h
  have e : (l.map fun x => x.f0.length + x.f1.length + 3).sum = to1 l + ti1 l + 3 * l.length := by
    clear h
    induction l with
    | nil => rfl
    | cons a r ih => rw [List.map_cons, List.sum_cons, ih, to1_cons, ti1_cons, List.length_cons]; omega
  omega
theorem mem_to1 {l : List S33} {t : S33} (h : t ∈ l) : t.f0.length ≤ to1 l ∧ t.f1.length ≤ ti1 l := by
  induction l with
  | nil => cases h
  | cons a r ih =>
    rw [to1_cons, ti1_cons]
    rcases List.mem_cons.1 h with rfl | h
    · omega
    · have := ih h; omega
theorem events_f (l : List S33) (hl : l.length ≤ 1048576) (ht : to1 l + ti1 l ≤ 1048576) (k : Nat) : turn_Events.f k l = some (evs l) := by
  unfold turn_Events.f
  rw [if_pos ⟨hl, fun t h => by have := mem_to1 h; omega⟩]
end Go.Proofs.Ytjcaflhlilckgaa.QA
