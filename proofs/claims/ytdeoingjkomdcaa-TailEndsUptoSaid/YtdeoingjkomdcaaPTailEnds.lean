import Derived.Lib.Bytes
import Derived.Laws.BytesArg
import Derived.KernelRfl
import Derived.Test.YtdeoingjkomdcaaGAlive
import Derived.Test.YtdeoingjkomdcaaQAx6
import Derived.Test.YtdeoingjkomdcaaGEnds
import Derived.Test.YtdeoingjkomdcaaQAx7
import Derived.Test.YtdeoingjkomdcaaGFacs
import Derived.Test.YtdeoingjkomdcaaQAx10
namespace Go.Proofs.Ytdeoingjkomdcaa.QA
open Go.RowKit Go.Proofs.YtdeoingjkomdcaaW.PrintWords Go.Proofs.YtdeoingjkomdcaaW.PrintLast Go.Proofs.YtdeoingjkomdcaaW.PrintMore
set_option linter.unusedVariables false
set_option linter.unusedSimpArgs false
/-! ### TailEnds -/
theorem st_take {s p : List Int} {k j : Nat} (hk : k ≤ s.length) (h : St (s.take k) p j) : j + p.length ≤ k ∧ St s p j := by
  obtain ⟨h1, h2⟩ := h
  rw [List.length_take] at h1
  refine ⟨by omega, by omega, ?_⟩
  rw [List.drop_take, List.take_take, show min p.length (k - j) = p.length by omega] at h2
  exact h2
theorem fe_some (t more : List Int) {n m : Nat} (hs : IsShort t n) (hm : 1 ≤ m) : fac (t ++ more) 0 (pieces t m n) = some t.length := by
  have hg := pieces_good t hs hm
  rcases hg.whole with h | h
  · match hl : pieces t m n, h with
    | [], _ =>
      have := hg.empty.1 hl
      rw [this]; rfl
    | [p], _ =>
      rw [hl] at hg
      have hne : t ≠ [] := fun e => by have := hg.empty.2 e; cases this
      have hsuf := hg.suf
      have hle := hg.le
      have hsm := hg.small p (by simp)
      rw [List.flatten_singleton] at hsuf hle
      have hst : St (t ++ more) p (t.length - p.length) := by
        refine ⟨by rw [List.length_append]; omega, ?_⟩
        rw [List.drop_append_of_le_length (by omega), hsuf, List.take_left]
      have hno : ∀ j, 0 ≤ j → j < t.length - p.length → ¬ St (t ++ more) p j := by
        intro j _ hj h2
        have e : (t.drop j).take p.length = t.drop (t.length - p.length) := by
          have := h2.2
          rw [List.drop_append_of_le_length (by omega), List.take_append_of_le_length (by rw [List.length_drop]; omega)] at this
          rw [hsuf]; exact this
        have hmat := (mat_rev (t := t) (i := j) (n := p.length) (by omega)).2 e
        rcases hs with ⟨h1, _⟩ | ⟨h1, h2', h3, h4⟩
        · exact hne h1
        · clear h4
          by_cases hpn : p.length = n
          · rw [hpn] at hmat hj; exact h3 (t.length - n - j) (by omega) hmat
          · have hp : pieces t m n = [p] := hl
            unfold pieces at hp
            rw [if_neg (by omega)] at hp
            by_cases hnm : n ≤ m
            · rw [if_pos hnm] at hp
              have := congrArg (fun x => (List.flatten x).length) hp
              simp at this
              omega
            · rw [if_neg hnm] at hp
              have := congrArg List.flatten hp
              rw [chunks_flat, List.take_of_length_le (cnt_all t hm), List.flatten_singleton] at this
              have := congrArg List.length this
              omega
      rw [fac, ff_is (Nat.zero_le _) hst hno, Option.bind_some, fac]
      exact congrArg some (by omega)
    | _ :: _ :: _, h => simp at h; omega
  · have := fac_prefix more (pieces t m n) []
    rw [h] at this
    simpa using this
theorem fe_none (t : List Int) {n m k : Nat} (hs : IsShort t n) (hm : 1 ≤ m) (hk : k < t.length) : fac (t.take k) 0 (pieces t m n) = none := by
  cases hf : fac (t.take k) 0 (pieces t m n) with
  | none => rfl
  | some x =>
    exfalso
    have hg := pieces_good t hs hm
    have hb := fac_bound hf (Nat.zero_le _)
    rw [List.length_take] at hb
    rcases hs with ⟨h1, _⟩ | ⟨h1, h2, h3, h4⟩
    · rw [h1] at hk; simp at hk
    · unfold pieces at hf hb
      rw [if_neg (by omega)] at hf hb
      by_cases hnm : n ≤ m
      · rw [if_pos hnm] at hf
        rw [fac, Option.bind_eq_some_iff] at hf
        obtain ⟨q, hq, _⟩ := hf
        have hst := st_take (by omega) (ff_some hq).2.1
        have hpl : (t.drop (t.length - n)).length = n := by rw [List.length_drop]; omega
        have e2 := hst.2.2
        rw [hpl] at hst e2
        exact h3 (t.length - n - q) (by omega) ((mat_rev (by omega)).2 e2)
      · rw [if_neg hnm, chunks_flat, List.take_of_length_le (cnt_all t hm)] at hb
        omega
theorem te_l1 (t more : List Int) (hbt : Byt t) (ht : t.length ≤ 150) (hmore : more.length ≤ 150) {n m : Nat} (hs : IsShort t n) (hm : 1 ≤ m) (hm2 : m ≤ 40) : ∀ d i k : Nat, i + d = t.length → d + 60000 ≤ k →
    cuecardlaw09_TailEnds.l1 k t (pieces t m n) (t ++ more) (t.length : Int) true (t.length : Int) (i : Int) = some true := by
  have hg := pieces_good t hs hm
  have hpl := pieces_len2 t (by omega) m n hm (by omega)
  have hbl : ∀ p ∈ pieces t m n, Byt p := by
    intro p hp
    unfold pieces at hp
    split at hp
    · simp at hp
    · split at hp
      · rw [List.mem_singleton] at hp; rw [hp]; exact hbt.drop _
      · obtain ⟨i, _, rfl⟩ := List.mem_map.1 hp
        exact (hbt.drop _).take _
  intro d
  induction d with
  | zero =>
    intro i k hi hk
    obtain ⟨k, rfl⟩ : ∃ k', k = k' + 1 := ⟨k - 1, by omega⟩
    rw [cuecardlaw09_TailEnds.l1, if_neg (by omega), alive_f, Option.bind_some, if_pos rfl, if_pos rfl]
    simp
  | succ d ih =>
    intro i k hi hk
    obtain ⟨k, rfl⟩ : ∃ k', k = k' + 1 := ⟨k - 1, by omega⟩
    have e : (t ++ more).take i = t.take i := List.take_append_of_le_length (by omega)
    have hmul : ((t.take i).length + 4) * (pieces t m n).length ≤ 154 * 190 := Nat.mul_le_mul (by rw [List.length_take]; omega) (by omega)
    rw [cuecardlaw09_TailEnds.l1, if_pos (by omega), if_pos (by omega), if_pos (by rw [List.length_append]; omega), Int.toNat_natCast, e,
      reffactors_ok (t.take i) (pieces t m n) (hbt.take _) hbl (by rw [List.length_take]; omega) (fun p hp => by have := (hg.small p hp).2; omega) (by omega) (by omega), fe_none t hs hm (by omega), Option.bind_some, wr1 (by omega)]
    show (if false = true then _ else _) = some true
    rw [if_neg (by decide)]
    exact ih (i + 1) k (by omega) (by omega)
theorem te_l0 (t more : List Int) (hbt : Byt t) (hbm : Byt more) (ht : t.length ≤ 150) (hmore : more.length ≤ 150) {n m : Nat} (hs : IsShort t n) (hm : 1 ≤ m) (hm2 : m ≤ 40) : ∀ d i k : Nat, i + d = (pieces t m n).length → d + 70000 ≤ k →
    cuecardlaw09_TailEnds.l0 k t more (m : Int) (pieces t m n) (pieces t m n) ((pieces t m n).length : Int) (i : Int) = some true := by
  have hg := pieces_good t hs hm
  have hpl := pieces_len2 t (by omega) m n hm (by omega)
  have hbl : ∀ p ∈ pieces t m n, Byt p := by
    intro p hp
    unfold pieces at hp
    split at hp
    · simp at hp
    · split at hp
      · rw [List.mem_singleton] at hp; rw [hp]; exact hbt.drop _
      · obtain ⟨i, _, rfl⟩ := List.mem_map.1 hp
        exact (hbt.drop _).take _
  intro d
  induction d with
  | zero =>
    intro i k hi hk
    obtain ⟨k, rfl⟩ : ∃ k', k = k' + 1 := ⟨k - 1, by omega⟩
    have hmul : ((t ++ more).length + 4) * (pieces t m n).length ≤ 304 * 190 := Nat.mul_le_mul (by rw [List.length_append]; omega) (by omega)
    have hbs : Byt (t ++ more) := fun x hx => (List.mem_append.1 hx).elim (hbt x) (hbm x)
    rw [cuecardlaw09_TailEnds.l0, if_neg (by omega), Option.bind_some, if_pos (by simp; omega), Option.bind_some, List.nil_append, if_pos (by omega), Option.bind_some,
      reffactors_ok (t ++ more) (pieces t m n) hbs hbl (by rw [List.length_append]; omega) (fun p hp => by have := (hg.small p hp).2; omega) (by omega) (by omega), fe_some t more hs hm, Option.bind_some]
    exact te_l1 t more hbt ht hmore hs hm hm2 t.length 0 k (by omega) (by omega)
  | succ d ih =>
    intro i k hi hk
    obtain ⟨k, rfl⟩ : ∃ k', k = k' + 1 := ⟨k - 1, by omega⟩
    have hlt : i < (pieces t m n).length := by omega
    have hsm := hg.small _ (List.getElem_mem hlt)
    rw [cuecardlaw09_TailEnds.l0, if_pos (by omega), if_pos (by omega), if_pos (by omega), rdL hlt, if_neg (by omega), if_neg (by omega), wr1 (by omega)]
    exact ih (i + 1) k (by omega) (by omega)
theorem TailEnds (l : List Int) (hbl : Byt l) (r : List Int) (hbr : Byt r) (a : Int) : ∃ k, cuecardlaw09_TailEnds.f k l r a = some true := by
  refine ⟨200003, ?_⟩
  unfold cuecardlaw09_TailEnds.f
  have hm := mn_nat l.length 150
  have hm' := mn_nat r.length 150
  rw [show ((150 : Nat) : Int) = 150 from rfl] at hm hm'
  rw [hm, hm', if_pos (by omega), if_pos (by omega), Option.bind_some, if_pos (by omega), if_pos (by omega), Option.bind_some, Int.toNat_natCast, Int.toNat_natCast]
  have hb := hbl.take (min l.length 150)
  have ht : (l.take (min l.length 150)).length ≤ 150 := by rw [List.length_take]; omega
  have hb' := hbr.take (min r.length 150)
  have ht' : (r.take (min r.length 150)).length ≤ 150 := by rw [List.length_take]; omega
  generalize l.take (min l.length 150) = t at hb ht ⊢
  generalize r.take (min r.length 150) = more at hb' ht' ⊢
  have hm1 : (t.length + 4) * t.length ≤ 154 * 150 := Nat.mul_le_mul (by omega) ht
  obtain ⟨n, hn, hs⟩ := shortest_ok t (by omega) (k := 200003) (by omega)
  obtain ⟨m, em, m1, m2⟩ := ask_m a
  have hg := pieces_good t hs m1
  have hpl := pieces_len2 t (by omega) m n (by omega) (by omega)
  rw [em, pieces_ok t (by omega) hs m m1 (by omega) (by omega), Option.bind_some]
  show (if (0 : Int) = 0 then _ else _) = some true
  rw [if_pos rfl]
  have he : ((((pieces t m n).length : Int) == 0) != ((t.length : Int) == 0)) = false := by
    have := hg.empty
    by_cases h : t = []
    · rw [this.2 h, h]; rfl
    · have h1 : t.length ≠ 0 := fun e => h (List.length_eq_zero_iff.1 e)
      have h2 : (pieces t m n).length ≠ 0 := fun e => h (this.1 (List.length_eq_zero_iff.1 e))
      rw [beq_eq_false_iff_ne.2 (show ((pieces t m n).length : Int) ≠ 0 by omega), beq_eq_false_iff_ne.2 (show (t.length : Int) ≠ 0 by omega)]
      rfl
  show cuecardlaw09_TailEnds.j0 200003 t more (m : Int) (pieces t m n) ((((pieces t m n).length : Int) == 0) != ((t.length : Int) == 0)) = some true
  rw [he, cuecardlaw09_TailEnds.j0, if_neg (by decide)]
  exact te_l0 t more hb hb' ht ht' hs m1 m2 (pieces t m n).length 0 200002 (by omega) (by omega)
end Go.Proofs.Ytdeoingjkomdcaa.QA
