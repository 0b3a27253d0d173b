import Derived.Lib.Bytes
import Derived.Laws.BytesArg
import Derived.KernelRfl
import Derived.Test.YtdeoingjkomdcaaGAlive
import Derived.Test.YtdeoingjkomdcaaQAx6
import Derived.Test.YtdeoingjkomdcaaGEnds
import Derived.Test.YtdeoingjkomdcaaQAx7
import Derived.Test.YtdeoingjkomdcaaGPieces2
import Derived.Test.YtdeoingjkomdcaaQAx12
namespace Go.Proofs.Ytdeoingjkomdcaa.QA
open Go.RowKit Go.Proofs.YtdeoingjkomdcaaW.PrintWords Go.Proofs.YtdeoingjkomdcaaW.PrintLast Go.Proofs.YtdeoingjkomdcaaW.PrintMore
set_option linter.unusedVariables false
set_option linter.unusedSimpArgs false
/-! ### TailWhole -/
theorem tw_l0 (t : List Int) (ht : t.length ≤ 200) {m : Nat} {l : List (List Int)} (hg : Good t m l) (hl : l.length ≤ 1000) : ∀ d i k : Nat, i + d = l.length → d + 3 ≤ k → cuecardlaw09_TailWhole.l0 k t (m : Int) l (strOfNums (l.take i).flatten) l (l.length : Int) (i : Int) = some true := by
  intro d
  induction d with
  | zero =>
    intro i k hi hk
    obtain ⟨k, rfl⟩ : ∃ k', k = k' + 1 := ⟨k - 1, by omega⟩
    have hle := hg.le
    rw [cuecardlaw09_TailWhole.l0, if_neg (by omega), List.take_of_length_le (by omega), strOfNums_size, if_neg (by omega), wrS (by omega) hle, if_pos (by omega), if_pos (by omega), Int.toNat_natCast, hg.suf, if_pos rfl, alive_f, Option.bind_some, if_pos rfl]
    by_cases h : (l.length : Int) < 2
    · rw [if_pos h]
    · rw [if_neg h]
      rcases hg.whole with h' | h'
      · omega
      · rw [h']; simp
  | succ d ih =>
    intro i k hi hk
    obtain ⟨k, rfl⟩ : ∃ k', k = k' + 1 := ⟨k - 1, by omega⟩
    have hlt : i < l.length := by omega
    have hle := hg.le
    have h1 := flat_take l i
    have h2 := flat_take l (i + 1)
    have e : (l.take (i + 1)).flatten = (l.take i).flatten ++ l[i] := by rw [List.take_succ_eq_append_getElem hlt, List.flatten_append, List.flatten_singleton]
    have hlen : l[i].length ≤ 200 := by
      have := congrArg List.length e
      rw [List.length_append] at this
      omega
    have hn := ih (i + 1) k (by omega) (by omega)
    rw [e, ← str_append] at hn
    rw [cuecardlaw09_TailWhole.l0, if_pos (by omega), if_pos (by omega), if_pos (by omega), rdL hlt, if_pos (by rw [strOfNums_size, strOfNums_size]; omega), wr1 (by omega)]
    by_cases h : ((i + 1 : Nat) : Int) < (l.length : Int)
    · rw [if_pos h, if_pos (by rw [hg.full i hlt (by omega)])]
      exact hn
    · rw [if_neg h]
      exact hn
theorem TailWhole (l : List Int) (hbl : Byt l) (a : Int) : ∃ k, cuecardlaw09_TailWhole.f k l a = some true := by
  refine ⟨100003, ?_⟩
  unfold cuecardlaw09_TailWhole.f
  have hm := mn_nat l.length 200
  rw [show ((200 : Nat) : Int) = 200 from rfl] at hm
  rw [hm, if_pos (by omega), if_pos (by omega), Option.bind_some, Int.toNat_natCast]
  have hb := hbl.take (min l.length 200)
  have ht : (l.take (min l.length 200)).length ≤ 200 := by rw [List.length_take]; omega
  generalize l.take (min l.length 200) = t at hb ht ⊢
  have hm1 : (t.length + 4) * t.length ≤ 204 * 200 := Nat.mul_le_mul (by omega) ht
  obtain ⟨n, hn, hs⟩ := shortest_ok t (by omega) (k := 100003) (by omega)
  obtain ⟨m, em, m1, m2⟩ := ask_m a
  have hpl := pieces_len2 t (by omega) m n (by omega) (by omega)
  rw [em, pieces_ok t (by omega) hs m m1 (by omega) (by omega), Option.bind_some]
  show (if (0 : Int) = 0 then _ else _) = some true
  rw [if_pos rfl]
  have := tw_l0 t ht (pieces_good t hs m1) (by omega) (pieces t m n).length 0 100003 (by omega) (by omega)
  exact this
end Go.Proofs.Ytdeoingjkomdcaa.QA
