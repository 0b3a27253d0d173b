import Derived.Test.YtefippbcgdfnbaaGT4
import Derived.Test.YtefippbcgdfnbaaQAx30
namespace Go.Proofs.Ytefippbcgdfnbaa.QA
open Go.RowKit Go.Proofs.YtefippbcgdfnbaaW.PrintWords Go.Proofs.YtefippbcgdfnbaaW.PrintLast Go.Proofs.YtefippbcgdfnbaaW.PrintMore
set_option linter.unusedVariables false
set_option linter.unusedSimpArgs false
theorem cut_l0 {l : List S43} (g : Good l) (hin : ∀ x ∈ l, In1 x) {q : Nat} (hq : q ≤ (trn l false).length) (n e : Int) (evl : List S43) (end_ : Bool)
    (hdec : (∃ i, i ≤ l.length ∧ (trn l false).take q = trn (l.take i) false ∧ evl = l.take i ∧ end_ = false ∧ n = 0 ∧ e = 0) ∨ (evl = [] ∧ e = 5 ∧ n ≤ (q : Int) ∧ ∀ i, i ≤ l.length → (trn (l.take i) false).length ≠ q)) (d : Nat) :
    ∀ (i k : Nat) (w : Int), i + d = l.length + 1 → d + 10000 ≤ k → (∀ j, j < i → (trn (l.take j) false).length ≠ q) → (d = 0 → w = (l.length : Int)) →
      cuecardlaw05_TransCut.l0 k l (q : Int) n e w ((l.length + 1 : Nat) : Int) (i : Int) evl end_ = some true := by
  have hg1 := g.1
  induction d with
  | zero =>
    intro i k w hi hk hj hw
    obtain ⟨k, rfl⟩ : ∃ m, k = m + 1 := ⟨k - 1, by omega⟩
    rw [cuecardlaw05_TransCut.l0, if_neg (by omega)]
    rcases hdec with ⟨j, hj1, hj2, _⟩ | ⟨rfl, rfl, hn, _⟩
    · refine absurd ?_ (hj j (by omega))
      have := congrArg List.length hj2
      rw [List.length_take] at this
      omega
    · rw [show cuecardlaw05_alive.f k = some true from rfl, Option.bind_some, if_pos rfl, if_pos (hw rfl), if_pos rfl, if_pos hn]
      rfl
  | succ d ih =>
    intro i k w hi hk hj hw
    obtain ⟨k, rfl⟩ : ∃ m, k = m + 1 := ⟨k - 1, by omega⟩
    have hle : i ≤ l.length := by omega
    rw [cuecardlaw05_TransCut.l0, if_pos (by omega), if_pos (by omega), if_pos (by omega), Int.toNat_natCast, refenc_f (l.take i) (good_take g i) false (by rw [List.length_take]; omega)]
    simp only [Option.bind_some]
    by_cases h : (trn (l.take i) false).length = q
    · rw [if_pos (by omega)]
      rcases hdec with ⟨j, hj1, hj2, rfl, rfl, rfl, rfl⟩ | ⟨_, _, _, hno⟩
      · have hjq : (trn (l.take j) false).length = q := by
          have := congrArg List.length hj2
          rw [List.length_take] at this
          omega
        have hji : l.take j = l.take i := by
          rcases Nat.lt_trichotomy j i with h1 | h1 | h1
          · exact absurd hjq (hj j h1)
          · rw [h1]
          · have h2 : (trn (l.take j) false) = trn (l.take i) false := by
              obtain ⟨s1, hs1⟩ := trn_take l j
              obtain ⟨s2, hs2⟩ := trn_take l i
              have h3 := congrArg (List.take q) (hs1.symm.trans hs2)
              rw [← hjq, List.take_left, hjq, ← h, List.take_left] at h3
              exact h3
            have e1 := dec_trn (good_take g j) (fun x hx => hin x (List.mem_of_mem_take hx)) false (Nat.le_refl (3 * (trn (l.take j) false).length + 40))
            have e2 := dec_trn (good_take g i) (fun x hx => hin x (List.mem_of_mem_take hx)) false (Nat.le_refl (3 * (trn (l.take i) false).length + 40))
            rw [h2, e2] at e1
            injection e1 with e1
            injection e1 with e1
            exact e1.symm
        rw [show cuecardlaw05_alive.f k = some true from rfl, Option.bind_some, if_pos rfl, if_pos rfl, if_pos rfl, hji]
        unfold cuecardlaw05_same.f
        rw [if_pos (show (false == false) = true from rfl), refsame_f _ _ (by rw [List.length_take]; omega) (by rw [List.length_take]; omega), same_self]
        rfl
      · exact absurd h (hno i hle)
    · rw [if_neg (by omega), show wrap64 ((i : Int) + 1) = ((i + 1 : Nat) : Int) from (w64 (by omega) (by omega)).trans (by omega)]
      refine ih (i + 1) k (i : Int) (by omega) (by omega) (fun j hj' => ?_) (fun h0 => by omega)
      rcases Nat.lt_or_ge j i with h1 | h1
      · exact hj j h1
      · obtain rfl : j = i := by omega
        exact h
theorem tmod_at' (a : Int) {n : Nat} (hn : n < 2 ^ 62) : ∃ q : Nat, q ≤ n ∧ wrap64 (Int.tmod (IntKind.u64.wrap a) (IntKind.u64.wrap (wrap64 ((n : Int) + 1)))) = (q : Int) := by
  rw [show wrap64 ((n : Int) + 1) = (n : Int) + 1 from w64 (by omega) (by omega), Va.wrapU64, Va.wrapU64, show (((n : Int) + 1) % 18446744073709551616) = (n : Int) + 1 by omega, Int.tmod_eq_emod_of_nonneg (by omega)]
  have h1 := Int.emod_nonneg (a % 18446744073709551616) (show (n : Int) + 1 ≠ 0 by omega)
  have h2 := Int.emod_lt_of_pos (a % 18446744073709551616) (show (0 : Int) < (n : Int) + 1 by omega)
  obtain ⟨q, hq⟩ := Int.eq_ofNat_of_zero_le h1
  rw [hq] at h2 ⊢
  exact ⟨q, by omega, w64 (by omega) (by omega)⟩
theorem TransCut (l : List S43) (hs : small l) (hin : ∀ x ∈ l, In1 x) (a : Int) : ∃ k, cuecardlaw05_TransCut.f k l a = some true := by
  have hl := small_tot hs
  obtain ⟨k, hk⟩ : ∃ k, 2 * l.length + 16 * 1048576 ≤ k := ⟨_, Nat.le_refl _⟩
  refine ⟨k + 1, ?_⟩
  unfold cuecardlaw05_TransCut.f
  rw [refchk_f l hs (by omega), Option.bind_some]
  have hT : cuecardlaw05_TransCut.j0 (k + 1) l a true = some true := by
    rw [cuecardlaw05_TransCut.j0, if_pos rfl, show cuecardlaw05_alive.f k = some true from rfl, Option.bind_some]
  by_cases h : chkV l = 0
  · rw [if_pos h]
    have g := (chkV_zero l).1 h
    by_cases h2 : (l.length : Int) > 200
    · rw [decide_eq_true h2]
      exact hT
    · rw [decide_eq_false h2]
      have hn := trn_len g false
      obtain ⟨q, hq, he⟩ := tmod_at' a (show (trn l false).length < 2 ^ 62 by omega)
      rw [cuecardlaw05_TransCut.j0, if_neg (by decide), refenc_f l g false (by omega), Option.bind_some]
      rw [he, if_neg (by rw [show wrap64 (((trn l false).length : Int) + 1) = ((trn l false).length : Int) + 1 from w64 (by omega) (by omega), Va.wrapU64]; omega), if_pos (by omega), if_pos (by omega), Int.toNat_natCast]
      have hfin : ∀ n e evl end_, ((∃ i, i ≤ l.length ∧ (trn l false).take q = trn (l.take i) false ∧ evl = l.take i ∧ end_ = false ∧ n = 0 ∧ e = 0) ∨ (evl = [] ∧ e = 5 ∧ n ≤ (q : Int) ∧ ∀ i, i ≤ l.length → (trn (l.take i) false).length ≠ q)) →
          cuecardlaw05_TransCut.l0 k l (q : Int) n e 0 (wrap64 ((l.length : Int) + 1)) 0 evl end_ = some true := fun n e evl end_ hd => by
        rw [show wrap64 ((l.length : Int) + 1) = ((l.length + 1 : Nat) : Int) from (w64 (by omega) (by omega)).trans (by omega)]
        exact cut_l0 g hin hq n e evl end_ hd (l.length + 1) 0 k 0 (by omega) (by omega) (fun j hj => by omega) (fun h => by omega)
      rcases dec_prefix g hin hq (show 8 * 1048576 ≤ k by omega) with ⟨i, hi, hp⟩ | ⟨p, hp, hd⟩
      · have hin2 : ∀ x ∈ l.take i, In1 x := fun x hx => hin x (List.mem_of_mem_take hx)
        have hn2 := trn_len (good_take g i) false
        rw [hp, dec_trn (good_take g i) hin2 false (by omega), Option.bind_some]
        exact hfin _ _ _ _ (.inl ⟨i, hi, hp, rfl, rfl, rfl, rfl⟩)
      · by_cases hb : ∃ i, i ≤ l.length ∧ (trn (l.take i) false).length = q
        · obtain ⟨i, hi, hiq⟩ := hb
          have hin2 : ∀ x ∈ l.take i, In1 x := fun x hx => hin x (List.mem_of_mem_take hx)
          have hn2 := trn_len (good_take g i) false
          obtain ⟨s, hs'⟩ := trn_take l i
          have hp : (trn l false).take q = trn (l.take i) false := by rw [hs', ← hiq, List.take_left]
          rw [hp, dec_trn (good_take g i) hin2 false (by omega), Option.bind_some]
          exact hfin _ _ _ _ (.inl ⟨i, hi, hp, rfl, rfl, rfl, rfl⟩)
        · rw [hd, Option.bind_some]
          exact hfin _ _ _ _ (.inr ⟨rfl, rfl, show (p : Int) ≤ (q : Int) by omega, fun i hi he => hb ⟨i, hi, he⟩⟩)
  · rw [if_neg h]
    exact hT
end Go.Proofs.Ytefippbcgdfnbaa.QA
