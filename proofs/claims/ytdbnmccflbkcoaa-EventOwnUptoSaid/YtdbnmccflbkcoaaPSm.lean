import Derived.Test.YtdbnmccflbkcoaaPlain
import Derived.Test.YtdbnmccflbkcoaaQAx7
namespace Go.Proofs.Ytdbnmccflbkcoaa.QA
open Go.RowKit Go.Proofs.YtdbnmccflbkcoaaW.PrintWords Go.Proofs.YtdbnmccflbkcoaaW.PrintMore
set_option linter.unusedVariables false
set_option linter.unusedSimpArgs false
def evEq (x y : S32) : Bool := (x.f0 == y.f0) && ((x.f1 == y.f1) && ((strOfNums x.f2).toList == (strOfNums y.f2).toList))
def sameB (l m : List S32) : Bool := decide (l.length = m.length) && (l.zip m).all (fun p => evEq p.1 p.2)
theorem sameB_len {l m : List S32} (h : l.length ≠ m.length) : sameB l m = false := by simp [sameB, h]
theorem sameB_true {l m : List S32} (h : l.length = m.length) (hj : ∀ (j : Nat) x y, l[j]? = some x → m[j]? = some y → evEq x y = true) : sameB l m = true := by
  simp only [sameB, h, decide_true, Bool.true_and, List.all_eq_true]
  rintro ⟨x, y⟩ hxy
  obtain ⟨j, hj2⟩ := List.getElem?_of_mem hxy
  rw [List.getElem?_zip_eq_some] at hj2
  exact hj j x y hj2.1 hj2.2
theorem sameB_false {l m : List S32} {j : Nat} {x y : S32} (hx : l[j]? = some x) (hy : m[j]? = some y) (h : evEq x y = false) : sameB l m = false := by
  rw [Bool.eq_false_iff]
  intro hs
  simp only [sameB, Bool.and_eq_true, List.all_eq_true] at hs
  have := hs.2 (x, y) (List.mem_of_getElem? (i := j) (List.getElem?_zip_eq_some.2 ⟨hx, hy⟩))
  rw [h] at this
  cases this
theorem refsame_l0 (l m : List S32) (hlen : l.length = m.length) (hm : l.length ≤ 1048576) : ∀ d i k : Nat, i + d = l.length → d + 1 ≤ k → (∀ (j : Nat) x y, j < i → l[j]? = some x → m[j]? = some y → evEq x y = true) → cuecardref04_Same.l0 k l m (i : Int) = some (sameB l m) := by
  intro d
  induction d with
  | zero =>
    intro i k hi hk hj
    obtain ⟨k, rfl⟩ : ∃ k', k = k' + 1 := ⟨k - 1, by omega⟩
    rw [cuecardref04_Same.l0, if_neg (by omega), sameB_true hlen (fun j x y hx hy => hj j x y (by have := (List.getElem?_eq_some_iff.1 hx).1; omega) hx hy)]
  | succ d ih =>
    intro i k hi hk hj
    obtain ⟨k, rfl⟩ : ∃ k', k = k' + 1 := ⟨k - 1, by omega⟩
    have hlt : i < l.length := by omega
    have hlt2 : i < m.length := by omega
    have hw1 : wrap64 ((i : Int) + 1) = ((i + 1 : Nat) : Int) := by unfold wrap64; omega
    rw [cuecardref04_Same.l0, if_pos (by omega), if_pos (by omega), if_pos (by omega), rdT l i hlt, rdT m i hlt2, hw1]
    have hF := fun h : evEq l[i] m[i] = false => sameB_false (l := l) (m := m) (j := i) (List.getElem?_eq_getElem hlt) (List.getElem?_eq_getElem hlt2) h
    by_cases h0 : l[i].f0 = m[i].f0
    · rw [if_pos h0]
      by_cases h1 : l[i].f1 = m[i].f1
      · rw [if_pos h1]
        by_cases h2 : (strOfNums l[i].f2).toList = (strOfNums m[i].f2).toList
        · rw [if_pos h2]
          refine ih (i + 1) k (by omega) (by omega) (fun j x y hj2 hx hy => ?_)
          rcases Nat.lt_or_ge j i with h | h
          · exact hj j x y h hx hy
          · obtain rfl : j = i := by omega
            rw [List.getElem?_eq_getElem hlt] at hx
            rw [List.getElem?_eq_getElem hlt2] at hy
            cases hx; cases hy
            simp [evEq, h0, h1, h2]
        · rw [if_neg h2, hF (by simp [evEq, h2])]
      · rw [if_neg h1, hF (by simp [evEq, h1])]
    · rw [if_neg h0, hF (by simp [evEq, h0])]
theorem refsame_f (l m : List S32) (hm : l.length ≤ 1048576) {k : Nat} (hk : l.length + 1 ≤ k) : cuecardref04_Same.f k l m = some (sameB l m) := by
  unfold cuecardref04_Same.f
  by_cases h : l.length = m.length
  · rw [if_pos (by omega)]
    exact refsame_l0 l m h hm l.length 0 k (by omega) hk (fun j x y hj => by omega)
  · rw [if_neg (by omega), sameB_len h]
theorem same_self (l : List S32) : sameB l l = true := sameB_true rfl (fun j x y hx hy => by rw [hx] at hy; cases hy; simp [evEq])
end Go.Proofs.Ytdbnmccflbkcoaa.QA
