import Derived.Test.YtefippbcgdfnbaaQAx1
import Derived.Test.YtefippbcgdfnbaaQAx7
import Derived.Test.YtefippbcgdfnbaaQAx25
namespace Go.Proofs.Ytefippbcgdfnbaa.QA
open Go.RowKit Go.Proofs.YtefippbcgdfnbaaW.PrintWords Go.Proofs.YtefippbcgdfnbaaW.PrintLast Go.Proofs.YtefippbcgdfnbaaW.PrintMore
set_option linter.unusedVariables false
set_option linter.unusedSimpArgs false
def small (l : List S43) : Prop := (l.map fun x => x.f2.length + 4).sum ≤ 1048576
def tot (l : List S43) : Nat := (l.map fun x => x.f2.length).sum
theorem small_tot {l : List S43} (h : small l) : tot l + 4 * l.length ≤ 1048576 := by
  have : ∀ l : List S43, (l.map fun x => x.f2.length + 4).sum = tot l + 4 * l.length := by
    intro l
    induction l with
    | nil => rfl
    | cons a r ih => unfold tot at *; simp only [List.map_cons, List.sum_cons, List.length_cons, ih]; omega
  unfold small at h
  rw [this] at h
  exact h
theorem tot_cons (x : S43) (l : List S43) : tot (x :: l) = x.f2.length + tot l := by simp [tot]
theorem tot_drop_le (l : List S43) (i : Nat) : tot (l.drop i) ≤ tot l := by
  have e : tot l = tot (l.take i) + tot (l.drop i) := by
    unfold tot
    rw [← List.sum_append, ← List.map_append, List.take_append_drop]
  omega
theorem tot_mem {l : List S43} {x : S43} (h : x ∈ l) : x.f2.length ≤ tot l := by
  induction l with
  | nil => cases h
  | cons a r ih =>
    rw [tot_cons]
    rcases List.mem_cons.1 h with rfl | h
    · omega
    · have := ih h; omega
theorem rdT (l : List S43) (i : Nat) (h : i < l.length) : rd_T43 l (i : Int) = l[i] := by
  unfold rd_T43
  rw [Int.toNat_natCast, List.getD_eq_getElem?_getD, List.getElem?_eq_getElem h]
  rfl
theorem i64_of_wf {x : Int} (hx : (Lit.int .i64 x).wf = true) : -9223372036854775808 ≤ x ∧ x ≤ 9223372036854775807 := by
  simp only [Lit.wf, IntKind.min, IntKind.max, IntKind.signed, IntKind.bits, Bool.and_eq_true] at hx
  simp at hx
  omega
def chk : List S43 → Nat → Int
  | [], _ => 0
  | x :: r, a => if x.f0 ≠ 0 ∧ x.f0 ≠ 1 then 2 else if 65536 < x.f2.length ∨ 262144 < a + x.f2.length then 6 else chk r (a + x.f2.length)
theorem check_l0 (l : List S43) (hl : small l) : ∀ d i k a : Nat, i + d = l.length → a ≤ 262144 → 2 * d + 1 ≤ k → event_Check.l0 k (262144 - (a : Int)) l (l.length : Int) (i : Int) = some (chk (l.drop i) a) := by
  have hs := small_tot hl
  intro d
  induction d with
  | zero =>
    intro i k a hi ha hk
    obtain ⟨k, rfl⟩ : ∃ k', k = k' + 1 := ⟨k - 1, by omega⟩
    rw [event_Check.l0, if_neg (by omega), List.drop_of_length_le (by omega)]
    rfl
  | succ d ih =>
    intro i k a hi ha hk
    obtain ⟨k, rfl⟩ : ∃ k', k = k' + 1 + 1 := ⟨k - 2, by omega⟩
    have hlt : i < l.length := by omega
    have hx := tot_mem (List.getElem_mem hlt)
    rw [event_Check.l0, if_pos (by omega), if_pos (by omega), if_pos (by omega), rdT l i hlt, List.drop_eq_getElem_cons hlt, chk]
    have hj : ∀ b, b = decide (l[i].f0 ≠ 0 ∧ l[i].f0 ≠ 1) → event_Check.j1 (k + 1) (wrap64 (262144 - (a : Int) - (l[i].f2.length : Int))) l (l.length : Int) (i : Int) b l[i].f0 l[i].f1 l[i].f2 = some (if l[i].f0 ≠ 0 ∧ l[i].f0 ≠ 1 then 2 else if 65536 < l[i].f2.length ∨ 262144 < a + l[i].f2.length then 6 else chk (l.drop (i + 1)) (a + l[i].f2.length)) := by
      intro b hb
      have hw : wrap64 (262144 - (a : Int) - (l[i].f2.length : Int)) = 262144 - (a : Int) - (l[i].f2.length : Int) := by unfold wrap64; omega
      have hw1 : wrap64 ((i : Int) + 1) = ((i + 1 : Nat) : Int) := by unfold wrap64; omega
      rw [event_Check.j1, hw, hw1]
      by_cases h : l[i].f0 ≠ 0 ∧ l[i].f0 ≠ 1
      · rw [hb, decide_eq_true h, if_pos rfl, if_pos h]
      · rw [hb, decide_eq_false h, if_neg (by decide), if_neg h]
        by_cases h2 : 65536 < l[i].f2.length
        · rw [if_pos (by omega), if_pos (.inl h2)]
        · rw [if_neg (by omega)]
          by_cases h3 : 262144 < a + l[i].f2.length
          · rw [if_pos (by omega), if_pos (.inr h3)]
          · rw [if_neg (by omega), if_neg (by omega)]
            have := ih (i + 1) k (a + l[i].f2.length) (by omega) (by omega) (by omega)
            rw [← this]
            congr 1
            omega
    by_cases h0 : l[i].f0 = 0
    · rw [if_pos h0]
      exact hj false (by rw [decide_eq_false]; exact fun h => h.1 h0)
    · rw [if_neg h0]
      refine hj _ ?_
      by_cases h1 : l[i].f0 = 1
      · rw [decide_eq_false (fun h => h.2 h1)]; simp [h1]
      · rw [decide_eq_true ⟨h0, h1⟩]; simpa using h1
theorem check_f (l : List S43) (hl : small l) {k : Nat} (hk : 2 * l.length + 1 ≤ k) : event_Check.f k l = some (if 4096 < l.length then 10 else chk l 0) := by
  unfold event_Check.f
  by_cases h : 4096 < l.length
  · rw [if_pos (by omega), if_pos h]
  · rw [if_neg (by omega), if_neg h]
    exact check_l0 l hl l.length 0 k 0 (by omega) (by omega) hk
theorem refcheck_l0 (l : List S43) (hl : small l) : ∀ d i k a : Nat, i + d = l.length → a ≤ 262144 → 2 * d + 1 ≤ k → cuecardref04_Check.l0 k l (a : Int) (i : Int) = some (chk (l.drop i) a) := by
  have hs := small_tot hl
  intro d
  induction d with
  | zero =>
    intro i k a hi ha hk
    obtain ⟨k, rfl⟩ : ∃ k', k = k' + 1 := ⟨k - 1, by omega⟩
    rw [cuecardref04_Check.l0, if_neg (by omega), List.drop_of_length_le (by omega)]
    rfl
  | succ d ih =>
    intro i k a hi ha hk
    obtain ⟨k, rfl⟩ : ∃ k', k = k' + 1 + 1 := ⟨k - 2, by omega⟩
    have hlt : i < l.length := by omega
    have hx := tot_mem (List.getElem_mem hlt)
    rw [cuecardref04_Check.l0, if_pos (by omega), if_pos (by omega), rdT l i hlt, List.drop_eq_getElem_cons hlt, chk]
    have hj : ∀ b, b = decide (l[i].f0 ≠ 0 ∧ l[i].f0 ≠ 1) → cuecardref04_Check.j1 (k + 1) l (a : Int) (i : Int) b = some (if l[i].f0 ≠ 0 ∧ l[i].f0 ≠ 1 then 2 else if 65536 < l[i].f2.length ∨ 262144 < a + l[i].f2.length then 6 else chk (l.drop (i + 1)) (a + l[i].f2.length)) := by
      intro b hb
      have hw : wrap64 ((a : Int) + (l[i].f2.length : Int)) = ((a + l[i].f2.length : Nat) : Int) := by unfold wrap64; omega
      have hw1 : wrap64 ((i : Int) + 1) = ((i + 1 : Nat) : Int) := by unfold wrap64; omega
      rw [cuecardref04_Check.j1, if_pos (show (0 : Int) ≤ (i : Int) by omega), if_pos (show (i : Int) < (l.length : Int) by omega), rdT l i hlt, hw, hw1]
      by_cases h : l[i].f0 ≠ 0 ∧ l[i].f0 ≠ 1
      · rw [hb, decide_eq_true h, if_pos rfl, if_pos h]
      · rw [hb, decide_eq_false h, if_neg (by decide), if_neg h]
        by_cases h2 : 65536 < l[i].f2.length
        · rw [if_pos (by omega), if_pos (.inl h2)]
        · rw [if_neg (by omega)]
          by_cases h3 : 262144 < a + l[i].f2.length
          · rw [if_pos (by omega), if_pos (.inr h3)]
          · rw [if_neg (by omega), if_neg (by omega)]
            exact ih (i + 1) k (a + l[i].f2.length) (by omega) (by omega) (by omega)
    by_cases h0 : l[i].f0 = 0
    · rw [if_pos h0]
      exact hj false (by rw [decide_eq_false]; exact fun h => h.1 h0)
    · rw [if_neg h0]
      refine hj _ ?_
      by_cases h1 : l[i].f0 = 1
      · rw [decide_eq_false (fun h => h.2 h1)]; simp [h1]
      · rw [decide_eq_true ⟨h0, h1⟩]; simpa using h1
theorem refcheck_f (l : List S43) (hl : small l) {k : Nat} (hk : 2 * l.length + 1 ≤ k) : cuecardref04_Check.f k l = some (if 4096 < l.length then 10 else chk l 0) := by
  unfold cuecardref04_Check.f
  by_cases h : 4096 < l.length
  · rw [if_pos (by omega), if_pos h]
  · rw [if_neg (by omega), if_neg h]
    exact refcheck_l0 l hl l.length 0 k 0 (by omega) (by omega) hk
def evEq (x y : S43) : Bool := (x.f0 == y.f0) && ((x.f1 == y.f1) && ((strOfNums x.f2).toList == (strOfNums y.f2).toList))
def sameB (l m : List S43) : Bool := decide (l.length = m.length) && (l.zip m).all (fun p => evEq p.1 p.2)
theorem sameB_len {l m : List S43} (h : l.length ≠ m.length) : sameB l m = false := by simp [sameB, h]
theorem sameB_true {l m : List S43} (h : l.length = m.length) (hj : ∀ (j : Nat) x y, l[j]? = some x → m[j]? = some y → evEq x y = true) : sameB l m = true := by
  simp only [sameB, h, decide_true, Bool.true_and, List.all_eq_true]
  rintro ⟨x, y⟩ hxy
  obtain ⟨j, hj2⟩ := List.getElem?_of_mem hxy
  rw [List.getElem?_zip_eq_some] at hj2
  exact hj j x y hj2.1 hj2.2
theorem sameB_false {l m : List S43} {j : Nat} {x y : S43} (hx : l[j]? = some x) (hy : m[j]? = some y) (h : evEq x y = false) : sameB l m = false := by
  rw [Bool.eq_false_iff]
  intro hs
  simp only [sameB, Bool.and_eq_true, List.all_eq_true] at hs
  have := hs.2 (x, y) (List.mem_of_getElem? (i := j) (List.getElem?_zip_eq_some.2 ⟨hx, hy⟩))
  rw [h] at this
  cases this
theorem refsame_l0 (l m : List S43) (hlen : l.length = m.length) (hm : l.length ≤ 1048576) : ∀ d i k : Nat, i + d = l.length → d + 1 ≤ k → (∀ (j : Nat) x y, j < i → l[j]? = some x → m[j]? = some y → evEq x y = true) → cuecardref04_Same.l0 k l m (i : Int) = some (sameB l m) := by
  intro d
  induction d with
  | zero =>
    intro i k hi hk hj
    obtain ⟨k, rfl⟩ : ∃ k', k = k' + 1 := ⟨k - 1, by omega⟩
    rw [cuecardref04_Same.l0, if_neg (by omega), sameB_true hlen (fun j x y hx hy => hj j x y (by have := (List.getElem?_eq_some_iff.1 hx).1; omega) hx hy)]
  | succ d ih =>
    intro i k hi hk hj
    obtain ⟨k, rfl⟩ : ∃ k', k = k' + 1 := ⟨k - 1, by omega⟩
    have hlt : i < l.length := by omega
    have hlt2 : i < m.length := by omega
    have hw1 : wrap64 ((i : Int) + 1) = ((i + 1 : Nat) : Int) := by unfold wrap64; omega
    rw [cuecardref04_Same.l0, if_pos (by omega), if_pos (by omega), if_pos (by omega), rdT l i hlt, rdT m i hlt2, hw1]
    have hF := fun h : evEq l[i] m[i] = false => sameB_false (l := l) (m := m) (j := i) (List.getElem?_eq_getElem hlt) (List.getElem?_eq_getElem hlt2) h
    by_cases h0 : l[i].f0 = m[i].f0
    · rw [if_pos h0]
      by_cases h1 : l[i].f1 = m[i].f1
      · rw [if_pos h1]
        by_cases h2 : (strOfNums l[i].f2).toList = (strOfNums m[i].f2).toList
        · rw [if_pos h2]
          refine ih (i + 1) k (by omega) (by omega) (fun j x y hj2 hx hy => ?_)
          rcases Nat.lt_or_ge j i with h | h
          · exact hj j x y h hx hy
          · obtain rfl : j = i := by omega
            rw [List.getElem?_eq_getElem hlt] at hx
            rw [List.getElem?_eq_getElem hlt2] at hy
            cases hx; cases hy
            simp [evEq, h0, h1, h2]
        · rw [if_neg h2, hF (by simp [evEq, h2])]
      · rw [if_neg h1, hF (by simp [evEq, h1])]
    · rw [if_neg h0, hF (by simp [evEq, h0])]
theorem refsame_f (l m : List S43) (hm : l.length ≤ 1048576) {k : Nat} (hk : l.length + 1 ≤ k) : cuecardref04_Same.f k l m = some (sameB l m) := by
  unfold cuecardref04_Same.f
  by_cases h : l.length = m.length
  · rw [if_pos (by omega)]
    exact refsame_l0 l m h hm l.length 0 k (by omega) hk (fun j x y hj => by omega)
  · rw [if_neg (by omega), sameB_len h]
theorem same_self (l : List S43) : sameB l l = true := sameB_true rfl (fun j x y hx hy => by rw [hx] at hy; cases hy; simp [evEq])
end Go.Proofs.Ytefippbcgdfnbaa.QA
