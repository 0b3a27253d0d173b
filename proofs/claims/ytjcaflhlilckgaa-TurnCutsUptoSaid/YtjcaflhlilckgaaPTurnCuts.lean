import Derived.Lib.Hide
import Derived.Test.YtjcaflhlilckgaaPTurns
import Derived.Test.YtjcaflhlilckgaaQAx5
namespace Go.Proofs.Ytjcaflhlilckgaa.QA
open Go.RowKit Go.Proofs.YtjcaflhlilckgaaW.PrintWords Go.Proofs.YtjcaflhlilckgaaW.PrintMore
set_option linter.unusedVariables false
set_option linter.unusedSimpArgs false
theorem tmod_le (a : Int) {n : Nat} (hn : n < 2 ^ 62) : ∃ q : Nat, q ≤ n ∧ wrap64 (Int.tmod (IntKind.u64.wrap a) (IntKind.u64.wrap (wrap64 ((n : Int) + 1)))) = (q : Int) ∧ ¬ IntKind.u64.wrap (wrap64 ((n : Int) + 1)) = 0 := by
  have w : ∀ x : Int, IntKind.u64.wrap x = x % 18446744073709551616 := fun x => by simp [IntKind.wrap, IntKind.bits, IntKind.signed]
  have e1 : wrap64 ((n : Int) + 1) = (n : Int) + 1 := by unfold wrap64; omega
  rw [e1, w, w, show (((n : Int) + 1) % 18446744073709551616) = (n : Int) + 1 by omega, Int.tmod_eq_emod_of_nonneg (by omega)]
  have h1 := Int.emod_nonneg (a % 18446744073709551616) (show (n : Int) + 1 ≠ 0 by omega)
  have h2 := Int.emod_lt_of_pos (a % 18446744073709551616) (show (0 : Int) < (n : Int) + 1 by omega)
  obtain ⟨q, hq⟩ := Int.eq_ofNat_of_zero_le h1
  rw [hq] at h2 ⊢
  exact ⟨q, by omega, by unfold wrap64; omega, by omega⟩
theorem tc_l0 (l : List S37) (x1 : List Int) (hs : few l) (hl : l.length ≤ 60) (d : Nat) : ∀ (i k : Nat) (p : List S37), i + d = l.length → d + 1000 ≤ k → p.length = 3 * i → tot p = tot (l.take i) → (dirs p).foldl dst st0 = (dirs (l.take i)).foldl dst st0 →
    cuecardlaw10_TurnCuts.l0 k l x1 p l (l.length : Int) (i : Int) = some true := by
  have h1 := hs.1
  induction d with
  | zero =>
    intro i k p hi hk hp ht hf
    obtain ⟨k, rfl⟩ : ∃ m, k = m + 1 := ⟨k - 1, by omega⟩
    rw [List.take_of_length_le (by omega)] at ht hf
    have hfp : few p := ⟨by omega, by omega⟩
    have e : trn p = trn l := by unfold trn; rw [hf]
    have hln := trn_len l
    rw [cuecardlaw10_TurnCuts.l0, if_neg (by omega), show cuecardlaw10_alive.f k = some true from rfl, Option.bind_some, if_pos rfl, of_f p hfp (by omega), Option.bind_some, of_f l hs (by omega), Option.bind_some, e, same_f _ (by omega) (by omega)]
    rfl
  | succ d ih =>
    intro i k p hi hk hp ht hf
    obtain ⟨k, rfl⟩ : ∃ m, k = m + 1 := ⟨k - 1, by omega⟩
    have hlt : i < l.length := by omega
    have hb : l[i].f2.length ≤ 1048576 := by have := tot_mem (List.getElem_mem hlt); omega
    have wn : wrap64 ((i : Int) + 1) = ((i + 1 : Nat) : Int) := by unfold wrap64; omega
    have htk : l.take (i + 1) = l.take i ++ [l[i]] := List.take_succ_eq_append_getElem hlt
    have step : ∀ c : Nat, cuecardlaw10_TurnCuts.l0 k l x1 (p ++ [⟨l[i].f0, 0, l[i].f2.take c⟩, ⟨l[i].f0, 9, []⟩, ⟨l[i].f0, 0, l[i].f2.drop c⟩]) l (l.length : Int) ((i + 1 : Nat) : Int) = some true := fun c => by
      refine ih (i + 1) k _ (by omega) (by omega) ?_ ?_ ?_
      · rw [List.length_append]
        simp only [List.length_cons, List.length_nil]
        omega
      · rw [htk, tot_append, tot_append, tot_cons, tot_cons, tot_one, tot_one, ht]
        simp only [List.length_take, List.length_drop, List.length_nil]
        omega
      · rw [htk, dirs_append, dirs_append, List.foldl_append, List.foldl_append, hf, cut_dst]
    rw [cuecardlaw10_TurnCuts.l0, if_pos (by omega), if_pos (by omega), if_pos (by omega), rdT l i hlt]
    by_cases hx : (i : Int) < (x1.length : Int)
    · obtain ⟨q, hq, he, hne⟩ := tmod_le (rd x1 (i : Int)) (show l[i].f2.length < 2 ^ 62 by omega)
      rw [if_pos hx, if_neg hne, he, if_pos (by omega), if_pos (by omega), Option.bind_some, if_pos (by simp only [List.length_cons, List.length_nil]; omega), Int.toNat_natCast, wn]
      exact step q
    · rw [if_neg hx, if_pos (by omega), Option.bind_some, if_pos (by simp only [List.length_cons, List.length_nil]; omega), wn]
      exact step 0
theorem few_take {l : List S37} (h : few l) (n : Nat) : few (l.take n) := by
  have e : tot l = tot (l.take n) + tot (l.drop n) := by
    unfold tot
    rw [← List.sum_append, ← List.map_append, List.take_append_drop]
  have := h.1
  exact ⟨by omega, by rw [List.length_take]; have := h.2; omega⟩
theorem TurnCuts (l : List S37) (hs : small l) (x1 : List Int) : ∃ k, cuecardlaw10_TurnCuts.f k l x1 = some true := by
  obtain ⟨k, hk⟩ : ∃ k, 2000 ≤ k := ⟨_, Nat.le_refl _⟩
  refine ⟨k, ?_⟩
  unfold cuecardlaw10_TurnCuts.f
  have hmn : ∃ c : Nat, mn (l.length : Int) 60 = (c : Int) ∧ c ≤ l.length ∧ c ≤ 60 := by
    unfold mn
    by_cases h : (60 : Int) < (l.length : Int)
    · rw [if_pos h]; exact ⟨60, rfl, by omega, Nat.le_refl _⟩
    · rw [if_neg h]; exact ⟨l.length, rfl, Nat.le_refl _, by omega⟩
  obtain ⟨c, hc, hcl, hc60⟩ := hmn
  rw [hc, if_pos (by omega), if_pos (by omega), Option.bind_some, Int.toNat_natCast]
  have hlc : (l.take c).length ≤ 60 := by rw [List.length_take]; omega
  exact tc_l0 (l.take c) x1 (few_take (few_of hs) c) hlc (l.take c).length 0 k [] (by omega) (by omega) rfl rfl rfl
end Go.Proofs.Ytjcaflhlilckgaa.QA
