import Derived.Test.YtdbnmccflbkcoaaPSm
import Derived.Test.YtdbnmccflbkcoaaPMrg
import Derived.Test.YtdbnmccflbkcoaaQAx6
namespace Go.Proofs.Ytdbnmccflbkcoaa.QA
open Go.RowKit Go.Proofs.YtdbnmccflbkcoaaW.PrintWords Go.Proofs.YtdbnmccflbkcoaaW.PrintMore
set_option linter.unusedVariables false
set_option linter.unusedSimpArgs false
theorem way_len (d : Int) (l : List S32) : (way d l).length = tot (l.filter fun x => x.f0 == d) := by
  unfold way tot
  rw [List.length_flatMap]
def oth (l : List S32) : Nat := (l.filter fun x => !(x.f0 == 0) && !(x.f0 == 1)).length
theorem parts_len (l : List S32) : (l.filter fun x => x.f0 == 0).length + (l.filter fun x => x.f0 == 1).length + oth l = l.length := by
  induction l with
  | nil => rfl
  | cons x r ih =>
    unfold oth at *
    by_cases h0 : x.f0 = 0
    · simp [h0]; omega
    · by_cases h1 : x.f0 = 1
      · simp [h1]; omega
      · simp [h0, h1]; omega
theorem due_le (told : Int) (l : List S32) : ∀ (n m : Nat), due told n m l ≤ n + (way 0 l).length := by
  induction l with
  | nil => intro n m; simp [due]
  | cons e r ih =>
    intro n m
    rw [way_cons, List.length_append]
    simp only [due]
    by_cases h1 : e.f0 = 1
    · rw [if_pos h1]
      have := ih n (m + e.f2.length)
      omega
    · rw [if_neg h1]
      by_cases h0 : e.f0 = 0
      · rw [if_pos h0, if_pos h0]
        split
        · omega
        · have := ih (n + e.f2.length) m
          omega
      · rw [if_neg h0, if_neg h0]
        have := ih n m
        omega
theorem eo_l3 (l : List S32) (hs : small l) (told : Int) (n b m : Nat) (hnm : n + m = l.length) (hb : (way 0 l).length ≤ b) (d : Nat) : ∀ (i k : Nat) (x : Int), i + d = 20 → x ≤ ((due ((i : Int) - 2) 0 0 l : Nat) : Int) → d + l.length + 10 ≤ k → cuecardlaw04_EventOrder.l3 k l told (n : Int) (b : Int) (m : Int) x (i : Int) = some true := by
  have hl := small_tot hs
  induction d with
  | zero =>
    intro i k x hi hx hk
    obtain ⟨k, rfl⟩ : ∃ m, k = m + 1 := ⟨k - 1, by omega⟩
    rw [cuecardlaw04_EventOrder.l3, if_neg (by omega)]
    rw [show cuecardlaw04_alive.f k = some true from rfl, Option.bind_some, if_pos rfl]
    rw [if_pos (by rw [wr_add (by omega)]; omega), due_f told l hs _ (by omega)]
    simp only [Option.bind_some]
    have := due_le told l 0 0
    rw [decide_eq_true (by omega)]
  | succ d ih =>
    intro i k x hi hx hk
    obtain ⟨k, rfl⟩ : ∃ m, k = m + 1 := ⟨k - 1, by omega⟩
    have hm := due_mono (show (i : Int) - 2 ≤ ((i + 1 : Nat) : Int) - 2 by omega) l 0 0
    rw [cuecardlaw04_EventOrder.l3, if_pos (by omega), show wrap64 ((i : Int) - 2) = (i : Int) - 2 by unfold wrap64; omega, due_f _ l hs _ (by omega)]
    simp only [Option.bind_some]
    rw [if_neg (by omega), wr_i (by omega)]
    exact ih (i + 1) k _ (by omega) (by omega) (by omega)
theorem eo_l2 (l : List S32) (hs : small l) (told : Int) (n b : Nat) (hn : n = (l.filter fun x => x.f0 == 0).length + (l.filter fun x => x.f0 == 1).length) (hb : (way 0 l).length ≤ b) (d : Nat) : ∀ (i k : Nat), i + d = l.length → d + l.length + 40 ≤ k → cuecardlaw04_EventOrder.l2 k l told (n : Int) (b : Int) ((oth (l.take i) : Nat) : Int) l (l.length : Int) (i : Int) = some true := by
  have hl := small_tot hs
  have hp := parts_len l
  induction d with
  | zero =>
    intro i k hi hk
    obtain ⟨k, rfl⟩ : ∃ m, k = m + 1 := ⟨k - 1, by omega⟩
    rw [cuecardlaw04_EventOrder.l2, if_neg (by omega), List.take_of_length_le (by omega)]
    exact eo_l3 l hs told n b (oth l) (by omega) hb 20 0 k 0 (by omega) (by omega) (by omega)
  | succ d ih =>
    intro i k hi hk
    obtain ⟨k, rfl⟩ : ∃ m, k = m + 1 := ⟨k - 1, by omega⟩
    have hlt : i < l.length := by omega
    have ht : l.take (i + 1) = l.take i ++ [l[i]] := List.take_succ_eq_append_getElem hlt
    have hle : oth (l.take i) ≤ i := by
      unfold oth
      exact Nat.le_trans (List.length_filter_le _ _) (by rw [List.length_take]; omega)
    have := ih (i + 1) k (by omega) (by omega)
    rw [ht] at this
    unfold oth at this hle ⊢
    rw [List.filter_append, List.length_append] at this
    rw [cuecardlaw04_EventOrder.l2, if_pos (by omega), if_pos (by omega), if_pos (by omega), rdT _ i hlt, wr_i (by omega)]
    by_cases h0 : l[i].f0 = 0
    · rw [if_pos h0]
      rw [show ([l[i]].filter fun x => !(x.f0 == 0) && !(x.f0 == 1)) = [] by simp [h0]] at this
      exact this
    · rw [if_neg h0]
      by_cases h1 : l[i].f0 = 1
      · rw [if_pos h1]
        rw [show ([l[i]].filter fun x => !(x.f0 == 0) && !(x.f0 == 1)) = [] by simp [h1]] at this
        exact this
      · rw [if_neg h1, wr_i (by omega)]
        rw [show ([l[i]].filter fun x => !(x.f0 == 0) && !(x.f0 == 1)) = [l[i]] by simp [h0, h1]] at this
        exact this
theorem eo_l1 (l : List S32) (hs : small l) (told dir : Int) (n b q K : Nat) (hq : q ≤ 1) (F : List S32) (hF : F = l.filter fun x => x.f0 == dir) (hn : n ≤ 1048576) (hb : b ≤ 1048576)
    (hc : ∀ k, K ≤ k → cuecardlaw04_EventOrder.l0 k l told ((n + F.length : Nat) : Int) ((b + tot F : Nat) : Int) [0, 1] (([0, 1] : List Int).length : Int) ((q + 1 : Nat) : Int) = some true) (d : Nat) :
    ∀ (j k : Nat), j + d = F.length → K + d + 1 ≤ k → cuecardlaw04_EventOrder.l1 k l told ((n + j : Nat) : Int) (b : Int) dir ((tot (F.take j) : Nat) : Int) [0, 1] (([0, 1] : List Int).length : Int) (q : Int) F (F.length : Int) (j : Int) = some true := by
  have hl := small_tot hs
  have hFl : F.length ≤ l.length := by rw [hF]; exact List.length_filter_le _ _
  have hFt : tot F = (way dir l).length := by rw [hF]; exact (way_len dir l).symm
  have hwl := way_le dir l
  induction d with
  | zero =>
    intro j k hj hk
    obtain ⟨k, rfl⟩ : ∃ m, k = m + 1 := ⟨k - 1, by omega⟩
    rw [cuecardlaw04_EventOrder.l1, if_neg (by omega), List.take_of_length_le (by omega), bytes_f _ _ hs]
    simp only [Option.bind_some]
    rw [if_pos (by omega), wr_i (by omega), wr_add (by omega)]
    obtain rfl : j = F.length := by omega
    exact hc k (by omega)
  | succ d ih =>
    intro j k hj hk
    obtain ⟨k, rfl⟩ : ∃ m, k = m + 1 := ⟨k - 1, by omega⟩
    have hlt : j < F.length := by omega
    have ht : F.take (j + 1) = F.take j ++ [F[j]] := List.take_succ_eq_append_getElem hlt
    have hle : tot (F.take j) + F[j].f2.length ≤ tot F := by
      have e : tot F = tot (F.take (j + 1)) + tot (F.drop (j + 1)) := by
        unfold tot
        rw [← List.sum_append, ← List.map_append, List.take_append_drop]
      rw [ht] at e
      have e2 : tot (F.take j ++ [F[j]]) = tot (F.take j) + F[j].f2.length := by rw [tot_append, tot_one]
      omega
    have hd : F[j].f0 = dir := by
      have hm := List.getElem_mem hlt
      have hm2 : F[j] ∈ l.filter fun x => x.f0 == dir := hF ▸ hm
      exact beq_iff_eq.1 (List.mem_filter.1 hm2).2
    have := ih (j + 1) k (by omega) (by omega)
    rw [ht, tot_append, tot_one] at this
    rw [cuecardlaw04_EventOrder.l1, if_pos (by omega), if_pos (by omega), if_pos (by omega), rdT _ j hlt, if_pos hd, wr_i (by omega), wr_i (by omega), wr_add (by omega)]
    exact this
theorem EventOrder (l : List S32) (hs : small l) (told : Int) : ∃ k, cuecardlaw04_EventOrder.f k l told = some true := by
  have hl0 := small_tot hs
  refine ⟨10 * l.length + 400, ?_⟩
  unfold cuecardlaw04_EventOrder.f
  have hmn : ∃ c : Nat, mn (l.length : Int) 100 = (c : Int) ∧ c ≤ l.length := by
    unfold mn
    by_cases h : (100 : Int) < (l.length : Int)
    · rw [if_pos h]; exact ⟨100, rfl, by omega⟩
    · rw [if_neg h]; exact ⟨l.length, rfl, Nat.le_refl _⟩
  obtain ⟨c, hc, hcl⟩ := hmn
  rw [hc, show cuecardlaw04_alive.f (10 * l.length + 400) = some true from rfl, Option.bind_some, if_pos rfl]
  rw [if_pos (by omega), if_pos (by omega), Int.toNat_natCast]
  have hs2 : small (l.take c) := by
    unfold small at hs ⊢
    have e : (l.map fun x => x.f2.length + 4).sum = ((l.take c).map fun x => x.f2.length + 4).sum + ((l.drop c).map fun x => x.f2.length + 4).sum := by
      rw [← List.sum_append, ← List.map_append, List.take_append_drop]
    omega
  have hlen : (l.take c).length ≤ l.length := by rw [List.length_take]; omega
  generalize l.take c = m at hs2 hlen
  have hl := small_tot hs2
  have hf0 := List.length_filter_le (fun x : S32 => x.f0 == 0) m
  have hf1 := List.length_filter_le (fun x : S32 => x.f0 == 1) m
  have ht0 : tot (m.filter fun x => x.f0 == 0) = (way 0 m).length := (way_len 0 m).symm
  have hw0 := way_le 0 m
  have h3 : (([0, 1] : List Int).length : Int) = 2 := rfl
  have c2 : ∀ k, 2 * m.length + 60 ≤ k → cuecardlaw04_EventOrder.l0 k m told (((m.filter fun x => x.f0 == 0).length + (m.filter fun x => x.f0 == 1).length : Nat) : Int) ((tot (m.filter fun x => x.f0 == 0) + tot (m.filter fun x => x.f0 == 1) : Nat) : Int) [0, 1] (([0, 1] : List Int).length : Int) ((1 + 1 : Nat) : Int) = some true := by
    intro k hk
    obtain ⟨k, rfl⟩ : ∃ m, k = m + 1 := ⟨k - 1, by omega⟩
    rw [cuecardlaw04_EventOrder.l0, if_neg (by omega)]
    exact eo_l2 m hs2 told _ _ rfl (by omega) m.length 0 k (by omega) (by omega)
  have c1 : ∀ k, 3 * m.length + 70 ≤ k → cuecardlaw04_EventOrder.l0 k m told (((0 : Nat) + (m.filter fun x => x.f0 == 0).length : Nat) : Int) (((0 : Nat) + tot (m.filter fun x => x.f0 == 0) : Nat) : Int) [0, 1] (([0, 1] : List Int).length : Int) ((0 + 1 : Nat) : Int) = some true := by
    intro k hk
    obtain ⟨k, rfl⟩ : ∃ m, k = m + 1 := ⟨k - 1, by omega⟩
    rw [cuecardlaw04_EventOrder.l0, if_pos (by omega), if_pos (by omega), if_pos (by omega), show rd [0, 1] ((0 + 1 : Nat) : Int) = 1 from rfl]
    unfold cuecardlaw04_of.f
    rw [if_pos (by omega)]
    simp only [Option.bind_some, Nat.zero_add]
    exact eo_l1 m hs2 told 1 _ _ 1 (2 * m.length + 60) (by omega) _ rfl (by omega) (by omega) c2 (m.filter fun x => x.f0 == 1).length 0 k (by omega) (by omega)
  obtain ⟨k, hk⟩ : ∃ k, 10 * l.length + 400 = k + 1 := ⟨10 * l.length + 399, rfl⟩
  simp only [Option.bind_some]
  rw [hk, cuecardlaw04_EventOrder.l0, if_pos (by omega), if_pos (by omega), if_pos (by omega), show rd [0, 1] (0 : Int) = 0 from rfl]
  unfold cuecardlaw04_of.f
  rw [if_pos (by omega)]
  simp only [Option.bind_some]
  exact eo_l1 m hs2 told 0 0 0 0 (3 * m.length + 70) (by omega) _ rfl (by omega) (by omega) c1 (m.filter fun x => x.f0 == 0).length 0 k (by omega) (by omega)
end Go.Proofs.Ytdbnmccflbkcoaa.QA
