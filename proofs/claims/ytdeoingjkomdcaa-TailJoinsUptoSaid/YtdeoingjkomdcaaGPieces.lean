import Derived.Lib.Bytes
import Derived.Laws.BytesArg
import Derived.KernelRfl
import Derived.Test.YtdeoingjkomdcaaGAlive
import Derived.Test.YtdeoingjkomdcaaQAx6
import Derived.Test.YtdeoingjkomdcaaGEnds
import Derived.Test.YtdeoingjkomdcaaQAx7
namespace Go.Proofs.Ytdeoingjkomdcaa.QA
open Go.RowKit Go.Proofs.YtdeoingjkomdcaaW.PrintWords Go.Proofs.YtdeoingjkomdcaaW.PrintLast Go.Proofs.YtdeoingjkomdcaaW.PrintMore
set_option linter.unusedVariables false
set_option linter.unusedSimpArgs false
/-! ### pieces -/
theorem wrM {i m : Nat} (h : i * m < 4611686018427387904) : wrap64 ((i : Int) * (m : Int)) = ((i * m : Nat) : Int) := by
  rw [← Int.natCast_mul]
  exact wrapId (by omega)
def chunkAt (t : List Int) (m i : Nat) : List Int := (t.drop (i * m)).take m
def chunksN (t : List Int) (m c : Nat) : List (List Int) := (List.range c).map (chunkAt t m)
def pieces (t : List Int) (m n : Nat) : List (List Int) := if n = 0 then [] else if n ≤ m then [t.drop (t.length - n)] else chunksN t m ((t.length + m - 1) / m)
theorem chunksN_len (t : List Int) (m c : Nat) : (chunksN t m c).length = c := by simp [chunksN]
theorem chunksN_succ (t : List Int) (m c : Nat) : chunksN t m (c + 1) = chunksN t m c ++ [chunkAt t m c] := by simp [chunksN, List.range_succ]
theorem cnt_lt {t : List Int} {m i : Nat} (hm : 1 ≤ m) (h : i < (t.length + m - 1) / m) : i * m + 1 ≤ t.length := by
  have := (Nat.le_div_iff_mul_le (show 0 < m by omega)).1 (show i + 1 ≤ (t.length + m - 1) / m by omega)
  rw [Nat.succ_mul] at this
  omega
theorem cnt_le {t : List Int} {m : Nat} (hm : 1 ≤ m) : (t.length + m - 1) / m ≤ t.length + m := by
  have := Nat.div_le_self (t.length + m - 1) m
  omega
theorem clone_f {l : List Int} {k : Nat} (h : l.length ≤ 1048576) : slices_Clone_byte_byte.f k l = some l := by
  unfold slices_Clone_byte_byte.f
  rw [if_pos (by omega)]
theorem pc_l0 (t : List Int) (ht : t.length ≤ 1048576) (m : Nat) (hm : 1 ≤ m) (hm2 : m ≤ 1048576) : ∀ d i k : Nat, i + d = (t.length + m - 1) / m → d + 1 ≤ k → tail_Pieces.l0 k t (m : Int) (chunksN t m i) (((t.length + m - 1) / m : Nat) : Int) (i : Int) = some (chunksN t m ((t.length + m - 1) / m), 0) := by
  have hc := cnt_le (t := t) hm
  intro d
  induction d with
  | zero =>
    intro i k hi hk
    obtain ⟨k, rfl⟩ : ∃ k', k = k' + 1 := ⟨k - 1, by omega⟩
    rw [tail_Pieces.l0, if_neg (by omega), show i = (t.length + m - 1) / m by omega]
  | succ d ih =>
    intro i k hi hk
    obtain ⟨k, rfl⟩ : ∃ k', k = k' + 1 := ⟨k - 1, by omega⟩
    have hlt := cnt_lt (t := t) hm (show i < (t.length + m - 1) / m by omega)
    have hs : (i + 1) * m = i * m + m := Nat.succ_mul i m
    have e1 : wrap64 ((i : Int) * (m : Int)) = ((i * m : Nat) : Int) := wrM (by omega)
    have e2 : wrap64 (wrap64 ((i : Int) + 1) * (m : Int)) = ((i * m + m : Nat) : Int) := by rw [wr1 (by omega), wrM (by omega), hs]
    rw [tail_Pieces.l0, if_pos (by omega), e1, e2, mn_nat, if_pos (by omega), if_pos (by omega), if_pos (by omega), Int.toNat_natCast, Int.toNat_natCast, wr1 (by omega)]
    have hch : (t.take (min t.length (i * m + m))).drop (i * m) = chunkAt t m i := by
      unfold chunkAt
      rw [List.drop_take]
      rcases Nat.le_total t.length (i * m + m) with h | h
      · rw [show min t.length (i * m + m) = t.length by omega, List.take_of_length_le (by rw [List.length_drop]; omega), List.take_of_length_le (by rw [List.length_drop]; omega)]
      · rw [show min t.length (i * m + m) - i * m = m by omega]
    have hcl : (chunkAt t m i).length ≤ 1048576 := by unfold chunkAt; rw [List.length_take]; omega
    rw [hch, clone_f hcl, Option.bind_some, if_pos (by rw [chunksN_len]; omega), ← chunksN_succ]
    exact ih (i + 1) k (by omega) (by omega)
theorem pieces_ok (t : List Int) (ht : t.length ≤ 1048576) {n : Nat} (hs : IsShort t n) (m : Nat) (hm : 1 ≤ m) (hm2 : m ≤ 1048576) {k : Nat} (hk : (t.length + 4) * t.length + t.length + t.length + m + 8 ≤ k) :
    tail_Pieces.f k t (m : Int) = some (pieces t m n, 0) := by
  obtain ⟨k, rfl⟩ : ∃ k', k = k' + 1 := ⟨k - 1, by omega⟩
  obtain ⟨n', hn, hs'⟩ := shortest_ok t ht (k := k) (by omega)
  obtain rfl := isShort_uniq hs' hs
  have hnl : n' ≤ t.length := by
    rcases hs with ⟨_, h⟩ | ⟨_, h, _⟩
    · omega
    · exact h
  unfold tail_Pieces.f pieces
  rw [if_neg (by omega), decide_eq_false (by omega), tail_Pieces.j0, if_neg (by decide), hn, Option.bind_some]
  by_cases h0 : n' = 0
  · rw [if_pos (by omega), if_pos h0]
  · rw [if_neg (by omega), if_neg h0]
    by_cases h1 : n' ≤ m
    · rw [if_pos (by omega), if_pos h1, wrS (by omega) hnl, if_pos (by omega), if_pos (by omega), Int.toNat_natCast, clone_f (by rw [List.length_drop]; omega), Option.bind_some, if_pos (by simp)]
      rfl
    · have e1 : wrap64 (wrap64 ((t.length : Int) + (m : Int)) - 1) = ((t.length + m - 1 : Nat) : Int) := by rw [wrA (by omega), wrapId (by omega)]; omega
      have hc := cnt_le (t := t) hm
      have hw : wrap64 (((t.length + m - 1) / m : Nat) : Int) = (((t.length + m - 1) / m : Nat) : Int) := by
        generalize (t.length + m - 1) / m = q at hc ⊢
        exact wrapId (by omega)
      rw [if_neg (by omega), if_neg h1, if_neg (by omega), e1, show Int.tdiv ((t.length + m - 1 : Nat) : Int) (m : Int) = (((t.length + m - 1) / m : Nat) : Int) from rfl, hw]
      exact pc_l0 t ht m hm hm2 ((t.length + m - 1) / m) 0 k (by omega) (by omega)
theorem pieces_no (t : List Int) (a : Int) (h : a < 1 ∨ a > 1048576) {k : Nat} (hk : 1 ≤ k) : tail_Pieces.f k t a = some ([], 3) := by
  obtain ⟨k, rfl⟩ : ∃ k', k = k' + 1 := ⟨k - 1, by omega⟩
  unfold tail_Pieces.f
  by_cases h1 : a < 1
  · rw [if_pos h1, tail_Pieces.j0, if_pos rfl]
  · rw [if_neg h1, decide_eq_true (by omega), tail_Pieces.j0, if_pos rfl]
theorem rp_l0 (t : List Int) (ht : t.length ≤ 1048576) (h0 : 1 ≤ t.length) (m : Nat) (hm : 1 ≤ m) (hm2 : m ≤ 1048576) : ∀ d i k : Nat, i * m + d = t.length → 1 ≤ d → d + 1 ≤ k → cuecardref09_Pieces.l0 k (t.drop (i * m)) (m : Int) (chunksN t m i) = some (chunksN t m ((t.length + m - 1) / m)) := by
  intro d
  induction d using Nat.strongRecOn with
  | ind d ih =>
    intro i k hi hd hk
    obtain ⟨k, rfl⟩ : ∃ k', k = k' + 1 := ⟨k - 1, by omega⟩
    have him : i ≤ i * m := Nat.le_mul_of_pos_right i (by omega)
    have hdl : (t.drop (i * m)).length = d := by rw [List.length_drop]; omega
    have hs : (i + 1) * m = i * m + m := Nat.succ_mul i m
    rw [cuecardref09_Pieces.l0, hdl]
    by_cases h : d > m
    · rw [if_pos (by omega), if_pos (by omega), if_pos (by omega), if_pos (by rw [chunksN_len]; omega), Int.toNat_natCast, List.drop_drop, ← hs]
      have := ih (d - m) (by omega) (i + 1) k (by omega) (by omega) (by omega)
      rw [chunksN_succ] at this
      exact this
    · rw [if_neg (by omega), if_pos (by rw [chunksN_len]; omega)]
      have hcnt : (t.length + m - 1) / m = i + 1 := by
        apply Nat.div_eq_of_lt_le
        · rw [hs]; omega
        · rw [Nat.succ_mul, hs]; omega
      rw [hcnt, chunksN_succ]
      unfold chunkAt
      rw [List.take_of_length_le (by omega)]
theorem refpieces_ok (t : List Int) (hb : Byt t) (ht : t.length ≤ 1048576) {n : Nat} (hs : IsShort t n) (m : Nat) (hm : 1 ≤ m) (hm2 : m ≤ 1048576) {k : Nat} (hk : (t.length + 3) * (t.length + 1) + t.length + 8 ≤ k) :
    cuecardref09_Pieces.f k t (m : Int) = some (pieces t m n) := by
  have hnl : n ≤ t.length := by
    rcases hs with ⟨_, h⟩ | ⟨_, h, _⟩
    · omega
    · exact h
  unfold cuecardref09_Pieces.f pieces
  rw [refshort_ok t hb ht hs (by omega), Option.bind_some]
  by_cases h0 : n = 0
  · rw [if_pos (by omega), if_pos h0]
  · rw [if_neg (by omega), if_neg h0]
    by_cases h1 : n ≤ m
    · rw [if_pos (by omega), if_pos h1, wrS (by omega) hnl, if_pos (by omega), if_pos (by omega), Int.toNat_natCast, if_pos (by simp)]
      rfl
    · rw [if_neg (by omega), if_neg h1]
      have := rp_l0 t ht (by omega) m hm hm2 t.length 0 k (by omega) (by omega) (by omega)
      rw [Nat.zero_mul, List.drop_zero] at this
      exact this
end Go.Proofs.Ytdeoingjkomdcaa.QA
