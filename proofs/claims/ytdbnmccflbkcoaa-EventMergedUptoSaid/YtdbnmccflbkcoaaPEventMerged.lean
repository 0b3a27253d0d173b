import Derived.Test.YtdbnmccflbkcoaaPSm
import Derived.Test.YtdbnmccflbkcoaaPMrg
import Derived.Test.YtdbnmccflbkcoaaQAx13
namespace Go.Proofs.Ytdbnmccflbkcoaa.QA
open Go.RowKit Go.Proofs.YtdbnmccflbkcoaaW.PrintWords Go.Proofs.YtdbnmccflbkcoaaW.PrintMore
set_option linter.unusedVariables false
set_option linter.unusedSimpArgs false
theorem risesB_of {l : List S32} (h : (l.map S32.f1).Pairwise (· ≤ ·)) : risesB l = true := by
  refine risesB_true (fun j x y hx hy => ?_)
  obtain ⟨h1, rfl⟩ := List.getElem?_eq_some_iff.1 hx
  obtain ⟨h2, rfl⟩ := List.getElem?_eq_some_iff.1 hy
  have := (List.pairwise_iff_getElem.1 h) j (j + 1) (by simpa using h1) (by simpa using h2) (by omega)
  simpa using this
theorem rises_of {l : List S32} (h : risesB l = true) : (l.map S32.f1).Pairwise (· ≤ ·) := by
  have hr : ∀ j, RisesAt l j := fun j => Classical.byContradiction fun hn => by
    rw [risesB_false hn] at h
    cases h
  rw [List.pairwise_iff_getElem]
  have key : ∀ d i (hi : i < l.length) (hj : i + d < l.length), l[i].f1 ≤ l[i + d].f1 := by
    intro d
    induction d with
    | zero => intro i hi hj; exact Int.le_refl _
    | succ d ih =>
      intro i hi hj
      have h1 := ih i hi (by omega)
      have h2 := hr (i + d) _ _ (List.getElem?_eq_getElem (by omega)) (List.getElem?_eq_getElem (show i + d + 1 < l.length by omega))
      exact Int.le_trans h1 h2
  intro i j hi hj hij
  simp only [List.length_map] at hi hj
  simp only [List.getElem_map]
  have := key (j - i) i hi (by omega)
  simpa [show i + (j - i) = j by omega] using this
theorem em_l1 (l : List S32) (hs : small l) (d : Nat) : ∀ i k : Nat, i + d = 3 → d + l.length + 10 ≤ k → cuecardlaw04_EventMerged.l1 k l (mrg l) [0, 1, 7] (([0, 1, 7] : List Int).length : Int) (i : Int) = some true := by
  have hl := small_tot hs
  obtain ⟨hs2, ht2, hl2⟩ := small_mrg hs
  induction d with
  | zero =>
    intro i k hi hk
    obtain ⟨k, rfl⟩ : ∃ m, k = m + 1 := ⟨k - 1, by omega⟩
    obtain rfl : i = 3 := by omega
    rw [cuecardlaw04_EventMerged.l1, if_neg (by decide)]
    simp only [cuecardlaw04_alive.f, Option.bind_some, if_true]
    rw [merge_f (mrg l) hs2 (by omega), mrg_self (inv_mrg l)]
    simp only [Option.bind_some]
    rw [refsame_f (mrg l) (mrg l) (by omega) (by omega), same_self]
    simp only [Option.bind_some, if_true]
    unfold event_Rises.f
    rw [if_pos (by omega), if_pos (by omega)]
    simp only [Option.bind_some]
    by_cases h : risesB l = true
    · rw [if_pos h, risesB_of (mrg_rises (rises_of h))]
    · rw [if_neg h]
  | succ d ih =>
    intro i k hi hk
    obtain ⟨k, rfl⟩ : ∃ m, k = m + 1 := ⟨k - 1, by omega⟩
    have h3 : (([0, 1, 7] : List Int).length : Int) = 3 := rfl
    rw [cuecardlaw04_EventMerged.l1, h3, if_pos (by omega), if_pos (by omega), if_pos (by omega), bytes_f _ _ hs2, bytes_f _ _ hs]
    simp only [Option.bind_some]
    rw [way_mrg, if_pos rfl, wr_i (by omega), ← h3]
    exact ih (i + 1) k (by omega) (by omega)
theorem em_l0 (l : List S32) (hs : small l) (d : Nat) : ∀ i k : Nat, i + d = (mrg l).length → d + l.length + 20 ≤ k → cuecardlaw04_EventMerged.l0 k l (mrg l) (mrg l) ((mrg l).length : Int) (i : Int) = some true := by
  have hl := small_tot hs
  obtain ⟨hs2, ht2, hl2⟩ := small_mrg hs
  have hi1 := inv_mrg l
  induction d with
  | zero =>
    intro i k hi hk
    obtain ⟨k, rfl⟩ : ∃ m, k = m + 1 := ⟨k - 1, by omega⟩
    rw [cuecardlaw04_EventMerged.l0, if_neg (by omega)]
    simp only [Option.bind_some]
    exact em_l1 l hs 3 0 k (by omega) (by omega)
  | succ d ih =>
    intro i k hi hk
    obtain ⟨k, rfl⟩ : ∃ m, k = m + 1 := ⟨k - 1, by omega⟩
    have hlt : i < (mrg l).length := by omega
    rw [cuecardlaw04_EventMerged.l0, if_pos (by omega), if_pos (by omega), if_pos (by omega), rdT _ i hlt, if_neg (by have := hi1.1 _ (List.getElem_mem hlt); omega)]
    by_cases h0 : i = 0
    · rw [if_neg (by omega), wr_i (by omega)]
      exact ih (i + 1) k (by omega) (by omega)
    · have hlt2 : i - 1 < (mrg l).length := by omega
      have hw := Lib.hid (show wrap64 ((i : Int) - 1) = ((i - 1 : Nat) : Int) by unfold wrap64; omega)
      rw [if_pos (by omega), hw.out, if_pos (by omega), if_pos (by omega), rdT _ (i - 1) hlt2]
      have hne := hi1.2 (i - 1) _ _ (List.getElem?_eq_getElem hlt2) (by rw [show i - 1 + 1 = i by omega]; exact List.getElem?_eq_getElem hlt)
      rw [if_neg hne, wr_i (by omega)]
      exact ih (i + 1) k (by omega) (by omega)
theorem EventMerged (l : List S32) (hs : small l) : ∃ k, cuecardlaw04_EventMerged.f k l = some true := by
  have hl := small_tot hs
  obtain ⟨hs2, ht2, hl2⟩ := small_mrg hs
  refine ⟨2 * l.length + 30, ?_⟩
  unfold cuecardlaw04_EventMerged.f
  rw [merge_f l hs (by omega)]
  simp only [Option.bind_some]
  exact em_l0 l hs (mrg l).length 0 _ (by omega) (by omega)
end Go.Proofs.Ytdbnmccflbkcoaa.QA
