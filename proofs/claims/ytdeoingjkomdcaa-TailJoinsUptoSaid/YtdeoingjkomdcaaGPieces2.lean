import Derived.Lib.Bytes
import Derived.Laws.BytesArg
import Derived.KernelRfl
import Derived.Test.YtdeoingjkomdcaaGAlive
import Derived.Test.YtdeoingjkomdcaaQAx6
import Derived.Test.YtdeoingjkomdcaaGEnds
import Derived.Test.YtdeoingjkomdcaaQAx7
import Derived.Test.YtdeoingjkomdcaaGPieces
namespace Go.Proofs.Ytdeoingjkomdcaa.QA
open Go.RowKit Go.Proofs.YtdeoingjkomdcaaW.PrintWords Go.Proofs.YtdeoingjkomdcaaW.PrintLast Go.Proofs.YtdeoingjkomdcaaW.PrintMore
set_option linter.unusedVariables false
set_option linter.unusedSimpArgs false
/-! ### what pieces are -/
theorem str_append (a b : List Int) : strOfNums a ++ strOfNums b = strOfNums (a ++ b) := by
  apply ByteArray.ext
  simp [strOfNums, ByteArray.data_append]
theorem rdL {l : List (List Int)} {i : Nat} (h : i < l.length) : rd_L2 l (i : Int) = l[i] := by simp [rd_L2, List.getD_eq_getElem?_getD, List.getElem?_eq_getElem h]
theorem chunks_flat (t : List Int) (m : Nat) : ∀ c, (chunksN t m c).flatten = t.take (c * m) := by
  intro c
  induction c with
  | zero => simp [chunksN]
  | succ c ih =>
    rw [chunksN_succ, List.flatten_append, ih, List.flatten_singleton, Nat.succ_mul, List.take_add]
    rfl
theorem cnt_all (t : List Int) {m : Nat} (hm : 1 ≤ m) : t.length ≤ (t.length + m - 1) / m * m := by
  have h1 := Nat.div_add_mod (t.length + m - 1) m
  have h2 := Nat.mod_lt (t.length + m - 1) (show 0 < m by omega)
  rw [Nat.mul_comm] at h1
  omega
structure Good (t : List Int) (m : Nat) (l : List (List Int)) : Prop where
  full : ∀ i (h : i < l.length), i + 1 < l.length → l[i].length = m
  suf : t.drop (t.length - l.flatten.length) = l.flatten
  le : l.flatten.length ≤ t.length
  whole : l.length < 2 ∨ l.flatten = t
  small : ∀ p ∈ l, 1 ≤ p.length ∧ p.length ≤ m
  empty : l = [] ↔ t = []
theorem pieces_good (t : List Int) {n m : Nat} (hs : IsShort t n) (hm : 1 ≤ m) : Good t m (pieces t m n) := by
  unfold pieces
  rcases hs with ⟨h1, h2⟩ | ⟨h1, h2, h3, h4⟩
  · subst h1 h2
    rw [if_pos rfl]
    exact ⟨fun i h => by simp at h, by simp, by simp, .inl (by simp), fun p hp => by simp at hp, by simp⟩
  · have hne : t ≠ [] := fun e => by subst e; simp at h2; omega
    rw [if_neg (by omega)]
    by_cases h : n ≤ m
    · rw [if_pos h]
      have e : (t.drop (t.length - n)).length = n := by rw [List.length_drop]; omega
      refine ⟨fun i h hi => by simp at hi, ?_, ?_, .inl (by simp), fun p hp => ?_, by simp [hne]⟩
      · rw [List.flatten_singleton, e]
      · rw [List.flatten_singleton, e]; exact h2
      · rw [List.mem_singleton] at hp; rw [hp, e]; omega
    · rw [if_neg h]
      have hall := cnt_all t hm
      have hf : (chunksN t m ((t.length + m - 1) / m)).flatten = t := by rw [chunks_flat, List.take_of_length_le hall]
      have hlen : ∀ i, i < (t.length + m - 1) / m → i * m + 1 ≤ t.length := fun i hi => cnt_lt hm hi
      have hpos : 0 < (t.length + m - 1) / m := Nat.div_pos (by omega) (by omega)
      refine ⟨fun i hi h2' => ?_, by rw [hf, Nat.sub_self, List.drop_zero], by rw [hf]; exact Nat.le_refl _, .inr hf, fun p hp => ?_, ⟨fun e => ?_, fun e => absurd e hne⟩⟩
      · rw [chunksN_len] at h2'
        have := hlen (i + 1) h2'
        rw [Nat.succ_mul] at this
        simp only [chunksN, List.getElem_map, List.getElem_range]
        unfold chunkAt
        rw [List.length_take, List.length_drop]
        omega
      · obtain ⟨i, hi, rfl⟩ := List.mem_map.1 hp
        rw [List.mem_range] at hi
        have := hlen i hi
        unfold chunkAt
        rw [List.length_take, List.length_drop]
        omega
      · have := congrArg List.length e
        rw [chunksN_len] at this
        simp at this
        omega
theorem ask_m (a : Int) : ∃ m : Nat, 1 + mx 0 a % 40 = (m : Int) ∧ 1 ≤ m ∧ m ≤ 40 := by
  have h0 : 0 ≤ mx 0 a := by unfold mx; split <;> omega
  exact ⟨(1 + mx 0 a % 40).toNat, by omega, by omega, by omega⟩
theorem flat_take (l : List (List Int)) (i : Nat) : (l.take i).flatten.length ≤ l.flatten.length := by
  have := congrArg (fun x => (List.flatten x).length) (List.take_append_drop i l)
  simp only [List.flatten_append, List.length_append] at this
  omega
theorem pieces_len2 (t : List Int) (ht : t.length ≤ 1048576) (m n : Nat) (hm : 1 ≤ m) (hm2 : m ≤ 1048576) : (pieces t m n).length ≤ t.length + m := by
  unfold pieces
  split
  · simp
  · split
    · simp; omega
    · rw [chunksN_len]; exact cnt_le hm
end Go.Proofs.Ytdeoingjkomdcaa.QA
