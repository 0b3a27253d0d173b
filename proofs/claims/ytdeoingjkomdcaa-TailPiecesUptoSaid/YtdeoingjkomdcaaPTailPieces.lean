import Derived.Lib.Bytes
import Derived.Laws.BytesArg
import Derived.KernelRfl
import Derived.Test.YtdeoingjkomdcaaGAlive
import Derived.Test.YtdeoingjkomdcaaQAx6
import Derived.Test.YtdeoingjkomdcaaGEnds
import Derived.Test.YtdeoingjkomdcaaQAx7
import Derived.Test.YtdeoingjkomdcaaGPieces
import Derived.Test.YtdeoingjkomdcaaQAx8
namespace Go.Proofs.Ytdeoingjkomdcaa.QA
open Go.RowKit Go.Proofs.YtdeoingjkomdcaaW.PrintWords Go.Proofs.YtdeoingjkomdcaaW.PrintLast Go.Proofs.YtdeoingjkomdcaaW.PrintMore
set_option linter.unusedVariables false
set_option linter.unusedSimpArgs false
/-! ### TailPieces -/
theorem tp_l0 (l : List (List Int)) (hl : l.length ≤ 4194304) : ∀ d i k : Nat, i + d = l.length → d + 1 ≤ k → cuecardlaw09_TailPieces.l0 k l l (l.length : Int) (i : Int) = some true := by
  intro d
  induction d with
  | zero =>
    intro i k hi hk
    obtain ⟨k, rfl⟩ : ∃ k', k = k' + 1 := ⟨k - 1, by omega⟩
    rw [cuecardlaw09_TailPieces.l0, if_neg (by omega), alive_f, Option.bind_some]
  | succ d ih =>
    intro i k hi hk
    obtain ⟨k, rfl⟩ : ∃ k', k = k' + 1 := ⟨k - 1, by omega⟩
    rw [cuecardlaw09_TailPieces.l0, if_pos (by omega), if_pos (by omega), if_pos (by omega), if_pos (by omega), if_pos rfl, wr1 (by omega)]
    exact ih (i + 1) k (by omega) (by omega)
theorem pieces_len (t : List Int) (ht : t.length ≤ 1048576) (m n : Nat) (hm : 1 ≤ m) (hm2 : m ≤ 1048576) : (pieces t m n).length ≤ t.length + m := by
  unfold pieces
  split
  · simp
  · split
    · simp; omega
    · rw [chunksN_len]; exact cnt_le hm
theorem TailPieces (l : List Int) (hbl : Byt l) (a : Int) : ∃ k, cuecardlaw09_TailPieces.f k l a = some true := by
  refine ⟨4000003, ?_⟩
  unfold cuecardlaw09_TailPieces.f
  have hm := mn_nat l.length 120
  rw [show ((120 : Nat) : Int) = 120 from rfl] at hm
  rw [hm, if_pos (by omega), if_pos (by omega), Option.bind_some, Int.toNat_natCast]
  have hb := hbl.take (min l.length 120)
  have ht : (l.take (min l.length 120)).length ≤ 120 := by rw [List.length_take]; omega
  generalize l.take (min l.length 120) = t at hb ht ⊢
  have hm1 : (t.length + 4) * t.length ≤ 124 * 120 := Nat.mul_le_mul (by omega) ht
  have hm2 : (t.length + 3) * (t.length + 1) ≤ 124 * 121 := Nat.mul_le_mul (by omega) (by omega)
  obtain ⟨n, hn, hs⟩ := shortest_ok t (by omega) (k := 4000003) (by omega)
  by_cases hr : a < 1 ∨ a > 1048576
  · rw [pieces_no t a hr (by omega), Option.bind_some, hn, Option.bind_some, refshort_ok t hb (by omega) hs (by omega), Option.bind_some, if_pos rfl]
    have hj : cuecardlaw09_TailPieces.j0 4000003 t a [] 3 true = some true := by
      rw [cuecardlaw09_TailPieces.j0, if_pos rfl, alive_f, Option.bind_some, if_pos rfl, if_pos rfl]; rfl
    by_cases h1 : a < 1
    · rw [if_pos h1]; exact hj
    · rw [if_neg h1, decide_eq_true (by omega)]; exact hj
  · obtain ⟨m, rfl⟩ : ∃ m : Nat, a = (m : Int) := ⟨a.toNat, by omega⟩
    have hpl := pieces_len t (by omega) m n (by omega) (by omega)
    rw [pieces_ok t (by omega) hs m (by omega) (by omega) (by omega), Option.bind_some, hn, Option.bind_some, refshort_ok t hb (by omega) hs (by omega), Option.bind_some, if_pos rfl, if_neg (by omega), decide_eq_false (by omega),
      cuecardlaw09_TailPieces.j0, if_neg (by decide), refpieces_ok t hb (by omega) hs m (by omega) (by omega) (by omega), Option.bind_some]
    show (if (0 : Int) = 0 then _ else _) = some true
    rw [if_pos rfl, cuecardlaw09_TailPieces.j1]
    show (if ((((pieces t m n).length : Int) != ((pieces t m n).length : Int)) = true) then _ else _) = some true
    rw [if_neg (by simp)]
    exact tp_l0 (pieces t m n) (by omega) (pieces t m n).length 0 4000001 (by omega) (by omega)
end Go.Proofs.Ytdeoingjkomdcaa.QA
