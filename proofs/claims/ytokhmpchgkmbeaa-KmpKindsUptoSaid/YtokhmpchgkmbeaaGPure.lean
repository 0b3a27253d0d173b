import Derived.Test.YtokhmpchgkmbeaaQAx5
import Derived.Test.YtokhmpchgkmbeaaQAx6
import Derived.Test.YtokhmpchgkmbeaaQAx7
import Derived.Test.YtokhmpchgkmbeaaGFirst
import Derived.KernelRfl
namespace Go.Proofs.Ytokhmpchgkmbeaa.QA
open Go.RowKit Go.Proofs.YtokhmpchgkmbeaaW.PrintWords
set_option linter.unusedVariables false
set_option linter.unusedSimpArgs false
/-! ### plain laws that the statements share -/
theorem wr1 {i : Nat} (h : i < 4611686018427387904) : wrap64 ((i : Int) + 1) = ((i + 1 : Nat) : Int) := by unfold wrap64; omega
theorem wrA {i j : Nat} (h : i + j < 4611686018427387904) : wrap64 ((i : Int) + (j : Int)) = ((i + j : Nat) : Int) := by unfold wrap64; omega
theorem wrS {i j : Nat} (h : i < 4611686018427387904) (hj : j ≤ i) : wrap64 ((i : Int) - (j : Int)) = ((i - j : Nat) : Int) := by unfold wrap64; omega
theorem rdN {l : List Int} {i : Nat} (h : i < l.length) : rd l (i : Int) = l[i] := by simp [rd, List.getD_eq_getElem?_getD, List.getElem?_eq_getElem h]
theorem take_next {a b : List Int} {i : Nat} (ha : i < a.length) (hb : i < b.length) (h : a.take i = b.take i) : a.take (i + 1) = b.take (i + 1) ↔ a[i] = b[i] := by
  rw [List.take_succ_eq_append_getElem ha, List.take_succ_eq_append_getElem hb, h]
  constructor
  · intro h
    exact List.singleton_inj.1 (List.append_cancel_left h)
  · intro h
    rw [h]
theorem same_l0 {a b : List Int} (hl : a.length = b.length) (hs : a.length ≤ 4294967296) : ∀ d i k : Nat, i + d = a.length → a.take i = b.take i → d + 1 ≤ k → cuecardref01_Same.l0 k a b i = some (decide (a = b)) := by
  intro d
  induction d with
  | zero =>
    intro i k hi ht hk
    obtain ⟨k, rfl⟩ : ∃ k', k = k' + 1 := ⟨k - 1, by omega⟩
    rw [List.take_of_length_le (by omega), List.take_of_length_le (by omega)] at ht
    rw [cuecardref01_Same.l0, if_neg (by omega), decide_eq_true ht]
  | succ d ih =>
    intro i k hi ht hk
    obtain ⟨k, rfl⟩ : ∃ k', k = k' + 1 := ⟨k - 1, by omega⟩
    have h1 : i < a.length := by omega
    have h2 : i < b.length := by omega
    rw [cuecardref01_Same.l0, if_pos (by omega), if_pos (by omega), if_pos (by omega), rdN h1, rdN h2, wr1 (by omega)]
    by_cases hx : a[i] = b[i]
    · rw [if_pos hx]
      exact ih (i + 1) k (by omega) ((take_next h1 h2 ht).2 hx) (by omega)
    · rw [if_neg hx, decide_eq_false]
      rintro rfl
      exact hx rfl
theorem same_f {a b : List Int} (hs : a.length ≤ 4294967296) {k : Nat} (hk : a.length + 1 ≤ k) : cuecardref01_Same.f k a b = some (decide (a = b)) := by
  unfold cuecardref01_Same.f
  by_cases h : a.length = b.length
  · rw [if_pos (by omega)]
    exact same_l0 h hs a.length 0 k (by omega) rfl hk
  · rw [if_neg (by omega), decide_eq_false]
    rintro rfl
    exact h rfl
theorem at_l0 {text p : List Int} {i : Nat} (hip : i + p.length ≤ text.length) (hs : text.length ≤ 4294967296) : ∀ d j k : Nat, j + d = p.length → (text.drop i).take j = p.take j → d + 1 ≤ k → cuecardref08_At.l0 k text p i j = some (stands text p i) := by
  intro d
  induction d with
  | zero =>
    intro j k hj ht hk
    obtain ⟨k, rfl⟩ : ∃ k', k = k' + 1 := ⟨k - 1, by omega⟩
    obtain rfl : j = p.length := by omega
    rw [List.take_length] at ht
    rw [cuecardref08_At.l0, if_neg (by omega)]
    unfold stands
    rw [beq_iff_eq.2 ht]
  | succ d ih =>
    intro j k hj ht hk
    obtain ⟨k, rfl⟩ : ∃ k', k = k' + 1 := ⟨k - 1, by omega⟩
    have h1 : i + j < text.length := by omega
    have h2 : j < p.length := by omega
    have h3 : j < (text.drop i).length := by rw [List.length_drop]; omega
    have e : (text.drop i)[j] = text[i + j] := List.getElem_drop
    rw [cuecardref08_At.l0, if_pos (by omega), wrA (by omega), if_pos (by omega), if_pos (by omega), if_pos (by omega), rdN h1, rdN h2, wr1 (by omega)]
    by_cases hx : text[i + j] = p[j]
    · rw [if_pos hx]
      exact ih (j + 1) k (by omega) ((take_next h3 h2 ht).2 (e.trans hx)) (by omega)
    · rw [if_neg hx]
      unfold stands
      rw [beq_eq_false_iff_ne.2]
      intro h
      refine hx ?_
      have := congrArg (fun l => l[j]?) h
      simp only [List.getElem?_take, h2, if_true, List.getElem?_drop, List.getElem?_eq_getElem h1, List.getElem?_eq_getElem h2] at this
      exact Option.some.inj this
/-- the document's At -/
def atB (text p : List Int) (i : Int) : Bool := decide (0 ≤ i ∧ i ≤ (text.length : Int)) && (decide (i.toNat + p.length ≤ text.length) && stands text p i.toNat)
theorem at_f {text p : List Int} (hs : text.length ≤ 4294967296) (i : Int) {k : Nat} (hk : p.length + 2 ≤ k) : cuecardref08_At.f k text p i = some (atB text p i) := by
  obtain ⟨k, rfl⟩ : ∃ k', k = k' + 1 := ⟨k - 1, by omega⟩
  unfold cuecardref08_At.f atB
  by_cases h0 : i < 0
  · rw [if_pos h0, decide_eq_false (show ¬ (0 ≤ i ∧ i ≤ (text.length : Int)) by omega), cuecardref08_At.j0, if_pos rfl, Bool.false_and]
  · rw [if_neg h0]
    by_cases h1 : i > (text.length : Int)
    · rw [if_pos h1, decide_eq_false (show ¬ (0 ≤ i ∧ i ≤ (text.length : Int)) by omega), cuecardref08_At.j0, if_pos rfl, Bool.false_and]
    · rw [if_neg h1, decide_eq_true (show 0 ≤ i ∧ i ≤ (text.length : Int) by omega), Bool.true_and]
      obtain ⟨n, rfl⟩ : ∃ n : Nat, i = (n : Int) := ⟨i.toNat, by omega⟩
      rw [wrS (by omega) (by omega), Int.toNat_natCast, cuecardref08_At.j0]
      by_cases h2 : n + p.length ≤ text.length
      · rw [decide_eq_false (show ¬ ((p.length : Int) > ((text.length - n : Nat) : Int)) by omega), if_neg (by decide), decide_eq_true h2, Bool.true_and]
        exact at_l0 h2 hs p.length 0 k (by omega) (by simp) (by omega)
      · rw [decide_eq_true (show (p.length : Int) > ((text.length - n : Nat) : Int) by omega), if_pos rfl, decide_eq_false h2, Bool.false_and]
theorem alive_f {k : Nat} (hk : 200 ≤ k) : cuecardlaw08_alive.f k = some true := by
  have h : cuecardlaw08_alive.f 200 = some true := by kernel_rfl
  have up : ∀ d, cuecardlaw08_alive.f (200 + d) = some true := by
    intro d
    induction d with
    | zero => exact h
    | succ d ih => exact cuecardlaw08_alive.mono _ _ ih
  have := up (k - 200)
  rwa [show 200 + (k - 200) = k by omega] at this
end Go.Proofs.Ytokhmpchgkmbeaa.QA
