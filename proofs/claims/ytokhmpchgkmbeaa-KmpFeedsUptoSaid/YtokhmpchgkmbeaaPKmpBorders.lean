import Derived.Test.YtokhmpchgkmbeaaQAx5
import Derived.Test.YtokhmpchgkmbeaaQAx6
import Derived.Test.YtokhmpchgkmbeaaQAx7
import Derived.Test.YtokhmpchgkmbeaaGFirst
import Derived.KernelRfl
import Derived.Test.YtokhmpchgkmbeaaGPure
import Derived.Test.YtokhmpchgkmbeaaQAx8
namespace Go.Proofs.Ytokhmpchgkmbeaa.QA
open Go.RowKit Go.Proofs.YtokhmpchgkmbeaaW.PrintWords
set_option linter.unusedVariables false
set_option linter.unusedSimpArgs false
/-! ### KmpBorders -/
theorem great_l0 (ls : List (List Int)) (hn : ls.length ≤ 1000) : ∀ d i k : Nat, i + d = ls.length → (∀ j x, j < i → ls[j]? = some x → x.length ≤ 100) → d + 1 ≤ k → ∃ b, cuecardlaw08_great.l0 k ls (ls.length : Int) i = some b ∧ (b = false → ∀ x ∈ ls, x.length ≤ 100) := by
  intro d
  induction d with
  | zero =>
    intro i k hi hp hk
    obtain ⟨k, rfl⟩ : ∃ k', k = k' + 1 := ⟨k - 1, by omega⟩
    refine ⟨false, by rw [cuecardlaw08_great.l0, if_neg (by omega)], fun _ x hx => ?_⟩
    obtain ⟨j, hj⟩ := List.getElem?_of_mem hx
    have := (List.getElem?_eq_some_iff.1 hj).1
    exact hp j x (by omega) hj
  | succ d ih =>
    intro i k hi hp hk
    obtain ⟨k, rfl⟩ : ∃ k', k = k' + 1 := ⟨k - 1, by omega⟩
    have h1 : i < ls.length := by omega
    have hx : ls[i]? = some ls[i] := List.getElem?_eq_getElem h1
    have hr : rd_L1 ls (i : Int) = ls[i] := by simp [rd_L1, List.getD_eq_getElem?_getD, hx]
    rw [cuecardlaw08_great.l0, if_pos (by omega), if_pos (by omega), if_pos (by omega), hr]
    by_cases hg : ((ls[i]).length : Int) > 100
    · exact ⟨true, by rw [if_pos hg], fun h => by cases h⟩
    · rw [if_neg hg, wr1 (by omega)]
      refine ih (i + 1) k (by omega) (fun j x hj hjx => ?_) (by omega)
      rcases Nat.lt_or_ge j i with h | h
      · exact hp j x h hjx
      · obtain rfl : j = i := by omega
        rw [hx] at hjx
        cases hjx
        omega
theorem great_f (ls : List (List Int)) (hn : ls.length ≤ 1000) {k : Nat} (hk : ls.length + 1 ≤ k) : ∃ b, cuecardlaw08_great.f k ls = some b ∧ (b = false → ∀ x ∈ ls, x.length ≤ 100) :=
  great_l0 ls hn ls.length 0 k (by omega) (fun j x hj => by omega) hk
/-- a border told as the document's At -/
theorem atB_bord (l : List Int) {i m : Nat} (hi : i < l.length) (hm : m ≤ i) : atB (l.take (i + 1)) (l.take m) ((i + 1 - m : Nat) : Int) = true ↔ l.take m <:+ l.take (i + 1) := by
  have h1 : (l.take (i + 1)).length = i + 1 := by rw [List.length_take]; omega
  have h2 : (l.take m).length = m := by rw [List.length_take]; omega
  unfold atB
  rw [Int.toNat_natCast, h1, h2, decide_eq_true (show (0 : Int) ≤ ((i + 1 - m : Nat) : Int) ∧ ((i + 1 - m : Nat) : Int) ≤ ((i + 1 : Nat) : Int) by omega), decide_eq_true (show i + 1 - m + m ≤ i + 1 by omega), Bool.true_and, Bool.true_and]
  rw [← ends_iff _ _ (by rw [h1, h2]; omega), h2, show i + 1 - m + m = i + 1 by omega, List.take_take, Nat.min_self]
theorem kb_l1 (l back : List Int) (hl : l.length ≤ 100) {i : Nat} (hi : i < l.length) (N : Nat) (hN : 300 ≤ N) (hnext : ∀ k, N ≤ k → cuecardlaw08_KmpBorders.l0 k l back back (l.length : Int) ((i + 1 : Nat) : Int) = some true) :
    ∀ e m k : Nat, m + e = i + 1 → (∀ q, m ≤ q → q ≤ i → ¬ l.take q <:+ l.take (i + 1)) → N + e + 1 ≤ k → cuecardlaw08_KmpBorders.l1 k l back (i : Int) (m : Int) back (l.length : Int) (i : Int) = some true := by
  intro e
  induction e with
  | zero =>
    intro m k hm hq hk
    obtain ⟨k, rfl⟩ : ∃ k', k = k' + 1 := ⟨k - 1, by omega⟩
    rw [cuecardlaw08_KmpBorders.l1, if_neg (by omega), wr1 (by omega)]
    exact hnext k (by omega)
  | succ e ih =>
    intro m k hm hq hk
    obtain ⟨k, rfl⟩ : ∃ k', k = k' + 1 := ⟨k - 1, by omega⟩
    have ha : atB (l.take (i + 1)) (l.take m) ((i + 1 - m : Nat) : Int) = false := by
      have := mt (atB_bord l hi (show m ≤ i by omega)).1 (hq m (Nat.le_refl _) (by omega))
      simpa using this
    rw [cuecardlaw08_KmpBorders.l1, if_pos (by omega), wr1 (by omega), if_pos (by omega), if_pos (by omega), if_pos (by omega), if_pos (by omega), wrS (by omega) (by omega), Int.toNat_natCast, Int.toNat_natCast,
      at_f (by rw [List.length_take]; omega) _ (by rw [List.length_take]; omega), ha, Option.bind_some, if_neg (by decide), wr1 (by omega)]
    exact ih (m + 1) k (by omega) (fun q h1 h2 => hq q (by omega) h2) (by omega)
theorem kb_l0 (l back : List Int) (hl : l.length ≤ 100) (hbl : back.length = l.length) (ht : Tab l back l.length) : ∀ d i k : Nat, i + d = l.length → 110 * d + 300 ≤ k → cuecardlaw08_KmpBorders.l0 k l back back (l.length : Int) (i : Int) = some true := by
  intro d
  induction d with
  | zero =>
    intro i k hi hk
    obtain ⟨k, rfl⟩ : ∃ k', k = k' + 1 := ⟨k - 1, by omega⟩
    rw [cuecardlaw08_KmpBorders.l0, if_neg (by omega)]
  | succ d ih =>
    intro i k hi hk
    obtain ⟨k, rfl⟩ : ∃ k', k = k' + 1 + 1 := ⟨k - 2, by omega⟩
    have hlt : i < l.length := by omega
    obtain ⟨b, hb1, hb2, hb3, hb4⟩ := ht (i + 1) (by omega) (by omega)
    rw [Nat.add_sub_cancel] at hb1
    have hj2 : cuecardlaw08_KmpBorders.j2 (k + 1) l back (i : Int) (b : Int) back (l.length : Int) (i : Int) false = some true := by
      rw [cuecardlaw08_KmpBorders.j2, if_neg (by decide), wr1 (by omega)]
      refine kb_l1 l back hl hlt (110 * d + 300) (by omega) (fun k hk => ih (i + 1) k (by omega) hk) (i - b) (b + 1) k (by omega) (fun q h1 h2 h3 => ?_) (by omega)
      have := hb4 q (by omega) h3
      omega
    have ha : atB (l.take (i + 1)) (l.take b) ((i + 1 - b : Nat) : Int) = true := (atB_bord l hlt (by omega)).2 hb3
    rw [cuecardlaw08_KmpBorders.l0, if_pos (by omega), if_pos (by omega), if_pos (by omega), rd_get hb1, if_neg (by omega), if_neg (by omega), wr1 (by omega), if_pos (by omega), if_pos (by omega), if_pos (by omega), if_pos (by omega), wrS (by omega) (by omega), Int.toNat_natCast, Int.toNat_natCast,
      at_f (by rw [List.length_take]; omega) _ (by rw [List.length_take]; omega), ha, Option.bind_some, if_pos rfl]
    rcases Nat.eq_zero_or_pos i with h0 | h0
    · rw [if_neg (by omega)]
      exact hj2
    · obtain ⟨c, hc1, hc2, hc3, hc4⟩ := ht i h0 (by omega)
      have hbc : b ≤ c + 1 := by
        rcases b with _ | b
        · omega
        · have hx : l[i]? = some l[i] := List.getElem?_eq_getElem hlt
          have hy : l[b]? = some l[b] := List.getElem?_eq_getElem (by omega)
          rw [take_snoc hx, take_snoc hy, snoc_suffix] at hb3
          have := hc4 b (by omega) hb3.1
          omega
      have hw : wrap64 ((i : Int) - 1) = ((i - 1 : Nat) : Int) := wrS (j := 1) (by omega) h0
      rw [if_pos (by omega), hw, if_pos (by omega), if_pos (by omega), rd_get hc1, wr1 (by omega), decide_eq_false (by omega)]
      exact hj2
theorem KmpBorders (l : List Int) : ∃ k, cuecardlaw08_KmpBorders.f k l = some true := by
  refine ⟨20001, ?_⟩
  unfold cuecardlaw08_KmpBorders.f
  rw [alive_f (by omega), Option.bind_some, if_pos rfl]
  obtain ⟨b, hg, hb⟩ := great_f [l] (by simp) (k := 20001) (by simp)
  rw [hg, Option.bind_some, cuecardlaw08_KmpBorders.j0]
  cases b with
  | true => rw [if_pos rfl, alive_f (by omega), Option.bind_some]
  | false =>
    have hl := hb rfl l (by simp)
    obtain ⟨back, h1, h2, h3⟩ := borders_ok l (by omega)
    rw [if_neg (by decide), h3 20000 (by omega), Option.bind_some, if_pos (by omega), h1]
    exact kb_l0 l back hl h1 h2 l.length 0 20000 (by omega) (by omega)
end Go.Proofs.Ytokhmpchgkmbeaa.QA
