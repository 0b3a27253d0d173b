import Derived.Test.YtdbnmccflbkcoaaQAx16
import Derived.Test.YtdbnmccflbkcoaaPlain
namespace Go.Proofs.Ytdbnmccflbkcoaa.QA
open Go.RowKit Go.Proofs.YtdbnmccflbkcoaaW.PrintWords
set_option linter.unusedVariables false
set_option linter.unusedSimpArgs false
/-! ### EventChecks -/
def chk : List S32 → Nat → Int
  | [], _ => 0
  | x :: r, a => if x.f0 ≠ 0 ∧ x.f0 ≠ 1 then 2 else if 65536 < x.f2.length ∨ 262144 < a + x.f2.length then 6 else chk r (a + x.f2.length)
theorem check_l0 (l : List S32) (hl : small l) : ∀ d i k a : Nat, i + d = l.length → a ≤ 262144 → 2 * d + 1 ≤ k → event_Check.l0 k (262144 - (a : Int)) l (l.length : Int) (i : Int) = some (chk (l.drop i) a) := by
  have hs := small_tot hl
  intro d
  induction d with
  | zero =>
    intro i k a hi ha hk
    obtain ⟨k, rfl⟩ : ∃ k', k = k' + 1 := ⟨k - 1, by omega⟩
    rw [event_Check.l0, if_neg (by omega), List.drop_of_length_le (by omega)]
    rfl
  | succ d ih =>
    intro i k a hi ha hk
    obtain ⟨k, rfl⟩ : ∃ k', k = k' + 1 + 1 := ⟨k - 2, by omega⟩
    have hlt : i < l.length := by omega
    have hx := tot_mem (List.getElem_mem hlt)
    rw [event_Check.l0, if_pos (by omega), if_pos (by omega), if_pos (by omega), rdT l i hlt, List.drop_eq_getElem_cons hlt, chk]
    have hj : ∀ b, b = decide (l[i].f0 ≠ 0 ∧ l[i].f0 ≠ 1) → event_Check.j1 (k + 1) (wrap64 (262144 - (a : Int) - (l[i].f2.length : Int))) l (l.length : Int) (i : Int) b l[i].f0 l[i].f1 l[i].f2 = some (if l[i].f0 ≠ 0 ∧ l[i].f0 ≠ 1 then 2 else if 65536 < l[i].f2.length ∨ 262144 < a + l[i].f2.length then 6 else chk (l.drop (i + 1)) (a + l[i].f2.length)) := by
      intro b hb
      have hw : wrap64 (262144 - (a : Int) - (l[i].f2.length : Int)) = 262144 - (a : Int) - (l[i].f2.length : Int) := by unfold wrap64; omega
      have hw1 : wrap64 ((i : Int) + 1) = ((i + 1 : Nat) : Int) := by unfold wrap64; omega
      rw [event_Check.j1, hw, hw1]
      by_cases h : l[i].f0 ≠ 0 ∧ l[i].f0 ≠ 1
      · rw [hb, decide_eq_true h, if_pos rfl, if_pos h]
      · rw [hb, decide_eq_false h, if_neg (by decide), if_neg h]
        by_cases h2 : 65536 < l[i].f2.length
        · rw [if_pos (by omega), if_pos (.inl h2)]
        · rw [if_neg (by omega)]
          by_cases h3 : 262144 < a + l[i].f2.length
          · rw [if_pos (by omega), if_pos (.inr h3)]
          · rw [if_neg (by omega), if_neg (by omega)]
            have := ih (i + 1) k (a + l[i].f2.length) (by omega) (by omega) (by omega)
            rw [← this]
            congr 1
            omega
    by_cases h0 : l[i].f0 = 0
    · rw [if_pos h0]
      exact hj false (by rw [decide_eq_false]; exact fun h => h.1 h0)
    · rw [if_neg h0]
      refine hj _ ?_
      by_cases h1 : l[i].f0 = 1
      · rw [decide_eq_false (fun h => h.2 h1)]; simp [h1]
      · rw [decide_eq_true ⟨h0, h1⟩]; simpa using h1
theorem check_f (l : List S32) (hl : small l) {k : Nat} (hk : 2 * l.length + 1 ≤ k) : event_Check.f k l = some (if 4096 < l.length then 10 else chk l 0) := by
  unfold event_Check.f
  by_cases h : 4096 < l.length
  · rw [if_pos (by omega), if_pos h]
  · rw [if_neg (by omega), if_neg h]
    exact check_l0 l hl l.length 0 k 0 (by omega) (by omega) hk
theorem refcheck_l0 (l : List S32) (hl : small l) : ∀ d i k a : Nat, i + d = l.length → a ≤ 262144 → 2 * d + 1 ≤ k → cuecardref04_Check.l0 k l (a : Int) (i : Int) = some (chk (l.drop i) a) := by
  have hs := small_tot hl
  intro d
  induction d with
  | zero =>
    intro i k a hi ha hk
    obtain ⟨k, rfl⟩ : ∃ k', k = k' + 1 := ⟨k - 1, by omega⟩
    rw [cuecardref04_Check.l0, if_neg (by omega), List.drop_of_length_le (by omega)]
    rfl
  | succ d ih =>
    intro i k a hi ha hk
    obtain ⟨k, rfl⟩ : ∃ k', k = k' + 1 + 1 := ⟨k - 2, by omega⟩
    have hlt : i < l.length := by omega
    have hx := tot_mem (List.getElem_mem hlt)
    rw [cuecardref04_Check.l0, if_pos (by omega), if_pos (by omega), rdT l i hlt, List.drop_eq_getElem_cons hlt, chk]
    have hj : ∀ b, b = decide (l[i].f0 ≠ 0 ∧ l[i].f0 ≠ 1) → cuecardref04_Check.j1 (k + 1) l (a : Int) (i : Int) b = some (if l[i].f0 ≠ 0 ∧ l[i].f0 ≠ 1 then 2 else if 65536 < l[i].f2.length ∨ 262144 < a + l[i].f2.length then 6 else chk (l.drop (i + 1)) (a + l[i].f2.length)) := by
      intro b hb
      have hw : wrap64 ((a : Int) + (l[i].f2.length : Int)) = ((a + l[i].f2.length : Nat) : Int) := by unfold wrap64; omega
      have hw1 : wrap64 ((i : Int) + 1) = ((i + 1 : Nat) : Int) := by unfold wrap64; omega
      rw [cuecardref04_Check.j1, if_pos (show (0 : Int) ≤ (i : Int) by omega), if_pos (show (i : Int) < (l.length : Int) by omega), rdT l i hlt, hw, hw1]
      by_cases h : l[i].f0 ≠ 0 ∧ l[i].f0 ≠ 1
      · rw [hb, decide_eq_true h, if_pos rfl, if_pos h]
      · rw [hb, decide_eq_false h, if_neg (by decide), if_neg h]
        by_cases h2 : 65536 < l[i].f2.length
        · rw [if_pos (by omega), if_pos (.inl h2)]
        · rw [if_neg (by omega)]
          by_cases h3 : 262144 < a + l[i].f2.length
          · rw [if_pos (by omega), if_pos (.inr h3)]
          · rw [if_neg (by omega), if_neg (by omega)]
            exact ih (i + 1) k (a + l[i].f2.length) (by omega) (by omega) (by omega)
    by_cases h0 : l[i].f0 = 0
    · rw [if_pos h0]
      exact hj false (by rw [decide_eq_false]; exact fun h => h.1 h0)
    · rw [if_neg h0]
      refine hj _ ?_
      by_cases h1 : l[i].f0 = 1
      · rw [decide_eq_false (fun h => h.2 h1)]; simp [h1]
      · rw [decide_eq_true ⟨h0, h1⟩]; simpa using h1
theorem refcheck_f (l : List S32) (hl : small l) {k : Nat} (hk : 2 * l.length + 1 ≤ k) : cuecardref04_Check.f k l = some (if 4096 < l.length then 10 else chk l 0) := by
  unfold cuecardref04_Check.f
  by_cases h : 4096 < l.length
  · rw [if_pos (by omega), if_pos h]
  · rw [if_neg (by omega), if_neg h]
    exact refcheck_l0 l hl l.length 0 k 0 (by omega) (by omega) hk
theorem refsame_l0 (l m : List S32) (hlen : l.length = m.length) (hm : l.length ≤ 1048576) : ∀ d i k : Nat, i + d = l.length → d + 1 ≤ k → (∀ (j : Nat) x y, j < i → l[j]? = some x → m[j]? = some y → evEq x y = true) → cuecardref04_Same.l0 k l m (i : Int) = some (sameB l m) := by
  intro d
  induction d with
  | zero =>
    intro i k hi hk hj
    obtain ⟨k, rfl⟩ : ∃ k', k = k' + 1 := ⟨k - 1, by omega⟩
    rw [cuecardref04_Same.l0, if_neg (by omega), sameB_true hlen (fun j x y hx hy => hj j x y (by have := (List.getElem?_eq_some_iff.1 hx).1; omega) hx hy)]
  | succ d ih =>
    intro i k hi hk hj
    obtain ⟨k, rfl⟩ : ∃ k', k = k' + 1 := ⟨k - 1, by omega⟩
    have hlt : i < l.length := by omega
    have hlt2 : i < m.length := by omega
    have hw1 : wrap64 ((i : Int) + 1) = ((i + 1 : Nat) : Int) := by unfold wrap64; omega
    rw [cuecardref04_Same.l0, if_pos (by omega), if_pos (by omega), if_pos (by omega), rdT l i hlt, rdT m i hlt2, hw1]
    have hF := fun h : evEq l[i] m[i] = false => sameB_false (l := l) (m := m) (j := i) (List.getElem?_eq_getElem hlt) (List.getElem?_eq_getElem hlt2) h
    by_cases h0 : l[i].f0 = m[i].f0
    · rw [if_pos h0]
      by_cases h1 : l[i].f1 = m[i].f1
      · rw [if_pos h1]
        by_cases h2 : (strOfNums l[i].f2).toList = (strOfNums m[i].f2).toList
        · rw [if_pos h2]
          refine ih (i + 1) k (by omega) (by omega) (fun j x y hj2 hx hy => ?_)
          rcases Nat.lt_or_ge j i with h | h
          · exact hj j x y h hx hy
          · obtain rfl : j = i := by omega
            rw [List.getElem?_eq_getElem hlt] at hx
            rw [List.getElem?_eq_getElem hlt2] at hy
            cases hx; cases hy
            simp [evEq, h0, h1, h2]
        · rw [if_neg h2, hF (by simp [evEq, h2])]
      · rw [if_neg h1, hF (by simp [evEq, h1])]
    · rw [if_neg h0, hF (by simp [evEq, h0])]
theorem refsame_f (l m : List S32) (hm : l.length ≤ 1048576) {k : Nat} (hk : l.length + 1 ≤ k) : cuecardref04_Same.f k l m = some (sameB l m) := by
  unfold cuecardref04_Same.f
  by_cases h : l.length = m.length
  · rw [if_pos (by omega)]
    exact refsame_l0 l m h hm l.length 0 k (by omega) hk (fun j x y hj => by omega)
  · rw [if_neg (by omega), sameB_len h]
theorem same_self (l : List S32) : sameB l l = true := sameB_true rfl (fun j x y hx hy => by rw [hx] at hy; cases hy; simp [evEq])
theorem ec_l0 (l m : List S32) (hl : small l) : ∀ d i k : Nat, ∀ b, 1 ≤ i → i + d = max 1 l.length → (b = true ↔ ∀ j, j + 1 < i → RisesAt l j) → d + 2 * l.length + 10 ≤ k → cuecardlaw04_EventChecks.l0 k l m b (i : Int) = some true := by
  have hs := small_tot hl
  intro d
  induction d with
  | zero =>
    intro i k b hi1 hi hb hk
    obtain ⟨k, rfl⟩ : ∃ k', k = k' + 1 := ⟨k - 1, by omega⟩
    have hrb : risesB l = b := by
      cases b with
      | true =>
        refine risesB_true (fun j => ?_)
        by_cases hj : j + 1 < i
        · exact hb.1 rfl j hj
        · intro x y hx hy
          have := (List.getElem?_eq_some_iff.1 hy).1
          omega
      | false =>
        have : ¬ ∀ j, j + 1 < i → RisesAt l j := fun h => by have := hb.2 h; cases this
        obtain ⟨j, hj⟩ := Classical.not_forall.1 this
        exact risesB_false (fun h => hj (fun _ => h))
    rw [cuecardlaw04_EventChecks.l0, if_neg (by omega)]
    simp only [cuecardlaw04_alive.f, Option.bind_some, if_true]
    rw [check_f l hl (by omega), refcheck_f l hl (by omega), refsame_f l m (by omega) (by omega)]
    unfold event_Same.f event_Rises.f
    simp only [if_pos (show l.length ≤ 1048576 by omega)]
    simp [same_self, hrb]
  | succ d ih =>
    intro i k b hi1 hi hb hk
    obtain ⟨k, rfl⟩ : ∃ k', k = k' + 1 := ⟨k - 1, by omega⟩
    have hlt : i < l.length := by omega
    have hlt2 : i - 1 < l.length := by omega
    have hw1 : wrap64 ((i : Int) + 1) = ((i + 1 : Nat) : Int) := by unfold wrap64; omega
    have hw2 : wrap64 ((i : Int) - 1) = ((i - 1 : Nat) : Int) := by unfold wrap64; omega
    have hra : RisesAt l (i - 1) ↔ l[i].f1 ≥ l[i - 1].f1 := by
      unfold RisesAt
      rw [show i - 1 + 1 = i by omega, List.getElem?_eq_getElem hlt, List.getElem?_eq_getElem hlt2]
      constructor
      · intro h; exact h _ _ rfl rfl
      · intro h x y hx hy; cases hx; cases hy; exact h
    rw [cuecardlaw04_EventChecks.l0, if_pos (by omega), hw1, hw2]
    cases b with
    | true =>
      rw [if_pos rfl, if_pos (by omega), if_pos (by omega), if_pos (by omega), rdT l i hlt, rdT l (i - 1) hlt2]
      refine ih (i + 1) k _ (by omega) (by omega) ?_ (by omega)
      rw [decide_eq_true_eq, ← hra]
      constructor
      · intro h j hj
        rcases Nat.lt_or_ge (j + 1) i with h' | h'
        · exact hb.1 rfl j h'
        · obtain rfl : j = i - 1 := by omega
          exact h
      · intro h; exact h (i - 1) (by omega)
    | false =>
      rw [if_neg (by decide)]
      refine ih (i + 1) k false (by omega) (by omega) ⟨fun h => absurd h (by decide), fun h => ?_⟩ (by omega)
      exact hb.2 (fun j hj => h j (by omega))
theorem EventChecks (l m : List S32) (hl : small l) : ∃ k, cuecardlaw04_EventChecks.f k l m = some true := by
  refine ⟨3 * l.length + 20, ?_⟩
  unfold cuecardlaw04_EventChecks.f
  exact ec_l0 l m hl (max 1 l.length - 1) 1 _ true (by omega) (by omega) ⟨fun _ j hj => absurd hj (by omega), fun _ => rfl⟩ (by omega)
end Go.Proofs.Ytdbnmccflbkcoaa.QA
