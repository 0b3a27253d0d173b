import Derived.Lib.Bytes
import Derived.Laws.BytesArg
import Derived.KernelRfl
import Derived.Test.YtdeoingjkomdcaaGAlive
import Derived.Test.YtdeoingjkomdcaaQAx6
import Derived.Test.YtdeoingjkomdcaaGEnds
import Derived.Test.YtdeoingjkomdcaaQAx11
namespace Go.Proofs.Ytdeoingjkomdcaa.QA
open Go.RowKit Go.Proofs.YtdeoingjkomdcaaW.PrintWords Go.Proofs.YtdeoingjkomdcaaW.PrintLast Go.Proofs.YtdeoingjkomdcaaW.PrintMore
set_option linter.unusedVariables false
set_option linter.unusedSimpArgs false
/-! ### TailShort -/
theorem ts_l1 (t : List Int) (hb : Byt t) (ht : t.length ≤ 200) {n : Nat} (hn2 : 2 ≤ n) (hn : n ≤ t.length) (hex : ∃ q, q < t.length - n + 1 ∧ (t.drop q).take (n - 1) = t.drop (t.length - (n - 1))) :
    ∀ d i k : Nat, ∀ b, i + d = t.length - n + 1 → b = decide (∃ q, q < i ∧ (t.drop q).take (n - 1) = t.drop (t.length - (n - 1))) → d + 1 ≤ k → cuecardlaw09_TailShort.l1 k t (n : Int) b ((t.length - n + 1 : Nat) : Int) (i : Int) = some true := by
  intro d
  induction d with
  | zero =>
    intro i k b hi hbv hk
    obtain ⟨k, rfl⟩ : ∃ k', k = k' + 1 := ⟨k - 1, by omega⟩
    rw [show i = t.length - n + 1 by omega, decide_eq_true hex] at hbv
    rw [cuecardlaw09_TailShort.l1, if_neg (by omega), alive_f, Option.bind_some, if_pos rfl, hbv]
  | succ d ih =>
    intro i k b hi hbv hk
    obtain ⟨k, rfl⟩ : ∃ k', k = k' + 1 := ⟨k - 1, by omega⟩
    rw [cuecardlaw09_TailShort.l1, if_pos (by omega), wr1 (by omega)]
    by_cases hbt : b = true
    · rw [if_pos hbt]
      refine ih (i + 1) k true (by omega) ?_ (by omega)
      rw [hbt] at hbv
      obtain ⟨q, q1, q2⟩ := of_decide_eq_true hbv.symm
      exact (decide_eq_true ⟨q, by omega, q2⟩).symm
    · have e1 : wrap64 (wrap64 ((i : Int) + (n : Int)) - 1) = ((i + (n - 1) : Nat) : Int) := by rw [wrA (by omega), wrapId (by omega)]; omega
      have e2 : wrap64 (wrap64 ((t.length : Int) - (n : Int)) + 1) = ((t.length - (n - 1) : Nat) : Int) := by rw [wrS (by omega) hn, wrapId (by omega)]; omega
      rw [if_neg hbt, e1, e2, if_pos (by omega), if_pos (by omega), if_pos (by omega), if_pos (by omega), if_pos (by omega), Int.toNat_natCast, Int.toNat_natCast, Int.toNat_natCast, cut_mid', str_beq ((hb.drop i).take _) (hb.drop _)]
      refine ih (i + 1) k _ (by omega) ?_ (by omega)
      have hbf : b = false := by simpa using hbt
      rw [hbf] at hbv
      have hno := of_decide_eq_false hbv.symm
      rw [decide_eq_decide]
      constructor
      · intro h; exact ⟨i, by omega, h⟩
      · rintro ⟨q, q1, q2⟩
        rcases Nat.lt_or_ge q i with h | h
        · exact absurd ⟨q, h, q2⟩ hno
        · obtain rfl : q = i := by omega
          exact q2
theorem ts_l0 (t : List Int) (hb : Byt t) (ht : t.length ≤ 200) {n : Nat} (hn1 : 1 ≤ n) (hn : n ≤ t.length) (hno : ∀ q, q < t.length - n → ¬ (t.drop q).take n = t.drop (t.length - n))
    (hex : n = 1 ∨ ∃ q, q < t.length - n + 1 ∧ (t.drop q).take (n - 1) = t.drop (t.length - (n - 1))) :
    ∀ d i k : Nat, i + d = t.length - n → d + 300 ≤ k → cuecardlaw09_TailShort.l0 k t (n : Int) ((t.length - n : Nat) : Int) (i : Int) = some true := by
  intro d
  induction d with
  | zero =>
    intro i k hi hk
    obtain ⟨k, rfl⟩ : ∃ k', k = k' + 1 := ⟨k - 1, by omega⟩
    rw [cuecardlaw09_TailShort.l0, if_neg (by omega)]
    by_cases h1 : n = 1
    · rw [if_pos (by omega), alive_f, Option.bind_some]
    · have e2 : wrap64 (wrap64 ((t.length : Int) - (n : Int)) + 1) = ((t.length - n + 1 : Nat) : Int) := by rw [wrS (by omega) hn, wr1 (by omega)]
      rw [if_neg (by omega), e2]
      exact ts_l1 t hb ht (by omega) hn (hex.resolve_left h1) (t.length - n + 1) 0 k false (by omega) (by simp) (by omega)
  | succ d ih =>
    intro i k hi hk
    obtain ⟨k, rfl⟩ : ∃ k', k = k' + 1 := ⟨k - 1, by omega⟩
    rw [cuecardlaw09_TailShort.l0, if_pos (by omega), if_pos (by omega), wrA (by omega), wrS (by omega) hn, wr1 (by omega), if_pos (by omega), if_pos (by omega), if_pos (by omega), if_pos (by omega), Int.toNat_natCast, Int.toNat_natCast, Int.toNat_natCast, cut_mid',
      if_neg (mt (str_eq ((hb.drop i).take _) (hb.drop _)).1 (hno i (by omega)))]
    exact ih (i + 1) k (by omega) (by omega)
theorem TailShort (l : List Int) (hbl : Byt l) : ∃ k, cuecardlaw09_TailShort.f k l = some true := by
  refine ⟨100001, ?_⟩
  unfold cuecardlaw09_TailShort.f
  have hm := mn_nat l.length 200
  rw [show ((200 : Nat) : Int) = 200 from rfl] at hm
  rw [hm, if_pos (by omega), if_pos (by omega), Option.bind_some, Int.toNat_natCast]
  have hb := hbl.take (min l.length 200)
  have ht : (l.take (min l.length 200)).length ≤ 200 := by rw [List.length_take]; omega
  generalize l.take (min l.length 200) = t at hb ht ⊢
  have hmm : (t.length + 4) * t.length ≤ 204 * 200 := Nat.mul_le_mul (by omega) ht
  obtain ⟨n, hn, hs⟩ := shortest_ok t (by omega) (k := 100001) (by omega)
  rw [hn, Option.bind_some]
  rcases hs with ⟨h1, h2⟩ | ⟨h1, h2, h3, h4⟩
  · rw [if_pos (by rw [h1]; rfl), alive_f, Option.bind_some, if_pos rfl, h2]
    rfl
  · rw [if_neg (by omega), if_neg (by omega), decide_eq_false (by omega), cuecardlaw09_TailShort.j0, if_neg (by decide), wrS (by omega) h2]
    refine ts_l0 t hb ht h1 h2 (fun q hq e => h3 (t.length - n - q) (by omega) ((mat_rev (by omega)).2 e)) ?_ (t.length - n) 0 100000 (by omega) (by omega)
    rcases h4 with h4 | ⟨s, hs, hm⟩
    · exact .inl h4
    · have hl := hm.1
      rw [List.length_reverse] at hl
      exact .inr ⟨t.length - (n - 1) - s, by omega, (mat_rev (by omega)).1 (by rw [show t.length - (n - 1) - (t.length - (n - 1) - s) = s by omega]; exact hm)⟩
end Go.Proofs.Ytdeoingjkomdcaa.QA
