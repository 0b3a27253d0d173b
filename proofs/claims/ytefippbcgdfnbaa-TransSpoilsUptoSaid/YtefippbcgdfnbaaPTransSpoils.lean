import Derived.Test.YtefippbcgdfnbaaGT3
import Derived.Test.YtefippbcgdfnbaaQAx31
namespace Go.Proofs.Ytefippbcgdfnbaa.QA
open Go.RowKit Go.Proofs.YtefippbcgdfnbaaW.PrintWords Go.Proofs.YtefippbcgdfnbaaW.PrintLast Go.Proofs.YtefippbcgdfnbaaW.PrintMore
set_option linter.unusedVariables false
set_option linter.unusedSimpArgs false
theorem spoil (v t : Int) (hv : 0 ≤ v ∧ v < 256) (ht : 0 ≤ t ∧ t < 256) : 0 ≤ Go.bits .and .u8 t 7 ∧ 0 ≤ Go.bits .xor .u8 v (shl .u8 1 (Go.bits .and .u8 t 7)) ∧ Go.bits .xor .u8 v (shl .u8 1 (Go.bits .and .u8 t 7)) < 256 ∧ Go.bits .xor .u8 v (shl .u8 1 (Go.bits .and .u8 t 7)) ≠ v := by
  have k1 : ∀ t : Fin 256, ∃ i : Fin 8, Go.bits .and .u8 ((t.val : Nat) : Int) 7 = ((i.val : Nat) : Int) := by decide +kernel
  have k2 : ∀ (v : Fin 256) (i : Fin 8), 0 ≤ Go.bits .xor .u8 ((v.val : Nat) : Int) (shl .u8 1 ((i.val : Nat) : Int)) ∧ Go.bits .xor .u8 ((v.val : Nat) : Int) (shl .u8 1 ((i.val : Nat) : Int)) < 256 ∧ Go.bits .xor .u8 ((v.val : Nat) : Int) (shl .u8 1 ((i.val : Nat) : Int)) ≠ ((v.val : Nat) : Int) := by decide +kernel
  obtain ⟨n, rfl⟩ := Int.eq_ofNat_of_zero_le hv.1
  obtain ⟨m, rfl⟩ := Int.eq_ofNat_of_zero_le ht.1
  obtain ⟨i, hi⟩ := k1 ⟨m, by omega⟩
  have := k2 ⟨n, by omega⟩ i
  have hi' : Go.bits .and .u8 (m : Int) 7 = ((i.val : Nat) : Int) := hi
  rw [hi']
  exact ⟨by omega, this⟩
theorem tmod_at (a : Int) {n : Nat} (h : 0 < n) (hn : n < 2 ^ 62) : ∃ q : Nat, q < n ∧ wrap64 (Int.tmod (IntKind.u64.wrap a) (IntKind.u64.wrap (n : Int))) = (q : Int) := by
  rw [Va.wrapU64, Va.wrapU64, show ((n : Int) % 18446744073709551616) = (n : Int) by omega, Int.tmod_eq_emod_of_nonneg (by omega)]
  have h1 := Int.emod_nonneg (a % 18446744073709551616) (show (n : Int) ≠ 0 by omega)
  have h2 := Int.emod_lt_of_pos (a % 18446744073709551616) (show (0 : Int) < (n : Int) by omega)
  obtain ⟨q, hq⟩ := Int.eq_ofNat_of_zero_le h1
  rw [hq] at h2 ⊢
  exact ⟨q, by omega, w64 (by omega) (by omega)⟩
theorem TransSpoils (l : List S43) (hs : small l) (hin : ∀ x ∈ l, In1 x) (a t : Int) (ht : 0 ≤ t ∧ t < 256) : ∃ k, cuecardlaw05_TransSpoils.f k l a t = some true := by
  have hl := small_tot hs
  refine ⟨2 * l.length + 4 * 1048576, ?_⟩
  unfold cuecardlaw05_TransSpoils.f
  rw [refchk_f l hs (by omega)]
  simp only [Option.bind_some]
  by_cases h : chkV l = 0
  · have g := (chkV_zero l).1 h
    have hn := trn_len g true
    have hb := byt_trn g.2.1 (fun x hx => (hin x hx).2) true
    rw [if_pos h, refenc_f l g true (by omega)]
    simp only [Option.bind_some]
    obtain ⟨q, hq, he⟩ := tmod_at a (show 0 < (trn l true).length by omega) (by omega)
    rw [he, if_neg (by rw [Va.wrapU64]; omega), if_pos (by omega), if_pos (by omega)]
    have hrq := hb _ (List.getElem_mem hq)
    obtain ⟨s0, s1, s2, s3⟩ := spoil (trn l true)[q] t hrq ht
    rw [rd_nat hq, if_pos s0, Int.toNat_natCast]
    generalize Go.bits .xor .u8 (trn l true)[q] (shl .u8 1 (Go.bits .and .u8 t 7)) = v at s1 s2 s3
    have hb' : Byt ((trn l true).set q v) := fun x hx => by
      rcases List.mem_or_eq_of_mem_set hx with hx | rfl
      · exact hb x hx
      · exact ⟨s1, s2⟩
    rcases dec_spec hb' (by rw [List.length_set]; omega) (show 3 * ((trn l true).set q v).length + 40 ≤ 2 * l.length + 4 * 1048576 by rw [List.length_set]; omega) with ⟨m, f, g2, hi2, hbe, hd⟩ | ⟨p, e, hne, hp, hd⟩
    · rw [hd]
      simp only [Option.bind_some, cuecardlaw05_alive.f, if_true, cuecardlaw05_same.f]
      by_cases hf : f = true
      · subst hf
        rw [if_pos (show (true == true) = true from rfl), refsame_f l m (by omega) (by omega)]
        simp only [Option.bind_some]
        have hno : sameB l m = false := by
          rw [Bool.eq_false_iff]
          intro hsm
          have hm : ∀ x ∈ m, Byt x.f2 := by
            intro x hx c hc
            have : c ∈ trn m true := by
              rw [trn_eq]
              refine List.mem_append_right _ (List.mem_append_left _ ?_)
              clear hbe hd g2 hi2 hsm
              generalize (0 : Int) = last
              induction m generalizing last with
              | nil => cases hx
              | cons y r ih =>
                rw [evs]
                rcases List.mem_cons.1 hx with rfl | hx
                · refine List.mem_append_left _ ?_
                  unfold evb
                  simp [hc]
                · exact List.mem_append_right _ (ih hx y.f1)
            rw [← hbe] at this
            exact hb' c this
          have hlm := sameB_eq (fun x hx => (hin x hx).2) hm hsm
          rw [← hlm] at hbe
          have h1 : ((trn l true).set q v)[q]'(by rw [List.length_set]; exact hq) = (trn l true)[q] := by simp only [hbe]
          rw [List.getElem_set_self] at h1
          exact s3 h1
        rw [hno]
        rfl
      · have hf' : f = false := by simpa using hf
        subst hf'
        simp
    · rw [hd]
      simp only [Option.bind_some, cuecardlaw05_alive.f, if_true]
      rw [if_neg hne]
  · rw [if_neg h]
    simp [cuecardlaw05_alive.f]
end Go.Proofs.Ytefippbcgdfnbaa.QA
