import Derived.Test.YtdbnmccflbkcoaaPSm
import Derived.Test.YtdbnmccflbkcoaaPMrg
import Derived.Test.YtdbnmccflbkcoaaQAx10
namespace Go.Proofs.Ytdbnmccflbkcoaa.QA
open Go.RowKit Go.Proofs.YtdbnmccflbkcoaaW.PrintWords Go.Proofs.YtdbnmccflbkcoaaW.PrintMore
set_option linter.unusedVariables false
set_option linter.unusedSimpArgs false
theorem ep_l0 (l : List S32) (hs : small l) (dir : Int) (d : Nat) : ∀ i k : Nat, i + d = l.length → d + l.length + 20 ≤ k → cuecardlaw04_EventParts.l0 k l dir ((l.take i).filter fun x => x.f0 == dir) l (l.length : Int) (i : Int) = some true := by
  have hl := small_tot hs
  obtain ⟨hs2, ht2, hl2⟩ := small_mrg hs
  induction d with
  | zero =>
    intro i k hi hk
    obtain ⟨k, rfl⟩ : ∃ m, k = m + 1 := ⟨k - 1, by omega⟩
    have hfl := List.length_filter_le (fun x : S32 => x.f0 == dir) l
    rw [cuecardlaw04_EventParts.l0, if_neg (by omega), List.take_of_length_le (by omega)]
    simp only [cuecardlaw04_alive.f, Option.bind_some, if_true]
    unfold cuecardlaw04_of.f
    rw [if_pos (by omega)]
    simp only [Option.bind_some]
    rw [refsame_f _ _ (by omega) (by omega), same_self]
    simp only [Option.bind_some, if_true]
    rw [bytes_f _ _ hs, refbytes_f _ _ hs _ (by omega)]
    simp only [Option.bind_some, if_true]
    rw [merge_f l hs (by omega), refmerge_f l hs (by omega)]
    simp only [Option.bind_some]
    rw [refsame_f _ _ (by omega) (by omega), same_self]
    rfl
  | succ d ih =>
    intro i k hi hk
    obtain ⟨k, rfl⟩ : ∃ m, k = m + 1 := ⟨k - 1, by omega⟩
    have hlt : i < l.length := by omega
    have hfl := List.length_filter_le (fun x : S32 => x.f0 == dir) (l.take i)
    rw [List.length_take] at hfl
    have ht : l.take (i + 1) = l.take i ++ [l[i]] := List.take_succ_eq_append_getElem hlt
    have := ih (i + 1) k (by omega) (by omega)
    rw [ht, List.filter_append] at this
    rw [cuecardlaw04_EventParts.l0, if_pos (by omega), if_pos (by omega), if_pos (by omega), rdT _ i hlt, wr_i (by omega)]
    by_cases h : l[i].f0 = dir
    · rw [if_pos h, if_pos (by omega)]
      rw [show [l[i]].filter (fun x => x.f0 == dir) = [l[i]] by simp [h]] at this
      exact this
    · rw [if_neg h]
      rw [show [l[i]].filter (fun x => x.f0 == dir) = [] by simp [h], List.append_nil] at this
      exact this
theorem EventParts (l : List S32) (hs : small l) (dir : Int) : ∃ k, cuecardlaw04_EventParts.f k l dir = some true := by
  refine ⟨2 * l.length + 30, ?_⟩
  have := ep_l0 l hs dir l.length 0 (2 * l.length + 30) (by omega) (by omega)
  unfold cuecardlaw04_EventParts.f
  simpa using this
end Go.Proofs.Ytdbnmccflbkcoaa.QA
