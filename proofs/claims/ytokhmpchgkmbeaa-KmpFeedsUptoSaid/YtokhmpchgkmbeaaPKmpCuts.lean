import Derived.Test.YtokhmpchgkmbeaaQAx5
import Derived.Test.YtokhmpchgkmbeaaQAx6
import Derived.Test.YtokhmpchgkmbeaaQAx7
import Derived.Test.YtokhmpchgkmbeaaGFirst
import Derived.KernelRfl
import Derived.Test.YtokhmpchgkmbeaaPKmpJoins
import Derived.Test.YtokhmpchgkmbeaaPKmpPlaces
import Derived.Test.YtokhmpchgkmbeaaQAx24
namespace Go.Proofs.Ytokhmpchgkmbeaa.QA
open Go.RowKit Go.Proofs.YtokhmpchgkmbeaaW.PrintWords
set_option linter.unusedVariables false
set_option linter.unusedSimpArgs false
/-! ### KmpCuts -/
theorem places_sorted (t p : List Int) : (places t p).Pairwise (· < ·) := by
  unfold places
  refine List.pairwise_map.2 (((List.pairwise_lt_range).filter _).imp ?_)
  intro a b h
  omega
theorem tmod_in {x : Int} {n : Nat} (hn : n ≤ 1048576) : IntKind.u64.wrap (wrap64 ((n : Int) + 1)) ≠ 0 ∧ ∃ r : Nat, r ≤ n ∧ wrap64 (Int.tmod (IntKind.u64.wrap x) (IntKind.u64.wrap (wrap64 ((n : Int) + 1)))) = (r : Int) := by
  have e1 : IntKind.u64.wrap (wrap64 ((n : Int) + 1)) = ((n + 1 : Nat) : Int) := by
    rw [wr1 (by omega)]
    show ((n + 1 : Nat) : Int) % 18446744073709551616 = _
    exact Int.emod_eq_of_lt (by omega) (by omega)
  have e2 : 0 ≤ IntKind.u64.wrap x := Int.emod_nonneg x (by decide)
  rw [e1]
  refine ⟨by omega, (IntKind.u64.wrap x).toNat % (n + 1), ?_, ?_⟩
  · have := Nat.mod_lt (IntKind.u64.wrap x).toNat (show n + 1 > 0 by omega); omega
  · generalize IntKind.u64.wrap x = y at e2 ⊢
    obtain ⟨m, rfl⟩ : ∃ m : Nat, y = (m : Int) := ⟨y.toNat, by omega⟩
    rw [Int.toNat_natCast, show Int.tmod (m : Int) ((n + 1 : Nat) : Int) = ((m % (n + 1) : Nat) : Int) from rfl]
    have := Nat.mod_lt m (show n + 1 > 0 by omega)
    exact wrapId (by omega)
theorem kc_l0 (t y L : List Int) (a : Nat) (ht : t.length ≤ 100) (hyl : y.length ≤ 100) (hL : L = places t y) (ha : (a : Int) ∈ L) :
    ∀ d i k : Nat, ∀ b, i + d = L.length → b = decide ((a : Int) ∈ L.take i) → 200 + d ≤ k → cuecardlaw08_KmpCuts.l0 k t (a : Int) y L b L (L.length : Int) (i : Int) = some true := by
  have hs : ∀ i j (h1 : i < L.length) (h2 : j < L.length), i < j → L[i] < L[j] := by
    have := places_sorted t y
    rw [← hL, List.pairwise_iff_getElem] at this
    exact this
  have hst : ∀ i (h : i < L.length), atB t y L[i] = true := by
    intro i h
    have hm : L[i] ∈ places t y := by
      have h2 := List.getElem_mem h
      generalize L[i] = z at h2 ⊢
      rw [hL] at h2
      exact h2
    obtain ⟨n, e1, e2, e3⟩ := mem_places.1 hm
    rw [e1, atB_stands e2, e3]
  have hlen : L.length ≤ 101 := by rw [hL]; have := places_len t y; omega
  intro d
  induction d with
  | zero =>
    intro i k b hi hb hk
    obtain ⟨k, rfl⟩ : ∃ k', k = k' + 1 := ⟨k - 1, by omega⟩
    rw [List.take_of_length_le (by omega), decide_eq_true ha] at hb
    subst hb
    rw [cuecardlaw08_KmpCuts.l0, if_neg (by omega), first_places (by omega) (by omega), ← hL, Option.bind_some]
    clear hL
    cases L with
    | nil => cases ha
    | cons x L =>
      have hx : x ≤ (a : Int) := by
        obtain ⟨j, hj, e⟩ := List.getElem_of_mem ha
        rcases Nat.eq_zero_or_pos j with h | h
        · subst h; simp at e; omega
        · have := hs 0 j (by simp) hj h; rw [e] at this; simp at this; omega
      have h0 : (0 : Int) < ((x :: L).length : Int) := by rw [List.length_cons]; omega
      refine (if_pos rfl).trans ((if_pos (show (!(x :: L).isEmpty) = true from rfl)).trans ((if_pos (show (x :: L).headD 0 ≤ (a : Int) from hx)).trans ((if_pos h0).trans ?_)))
      simp [rd]
  | succ d ih =>
    intro i k b hi hb hk
    obtain ⟨k, rfl⟩ : ∃ k', k = k' + 1 := ⟨k - 1, by omega⟩
    have hlt : i < L.length := by omega
    have hat : cuecardref08_At.f k t y (rd L (i : Int)) = some true := by rw [at_f (by omega) _ (by omega), rdN hlt, hst i hlt]
    have hmem : ((a : Int) ∈ L.take (i + 1)) ↔ ((a : Int) ∈ L.take i ∨ L[i] = (a : Int)) := by
      rw [List.take_succ_eq_append_getElem hlt, List.mem_append, List.mem_singleton, eq_comm (a := (a : Int))]
    have hlt2 : (i : Int) < (L.length : Int) := by omega
    have hwi : (i : Int) > 0 → wrap64 ((i : Int) - 1) = ((i - 1 : Nat) : Int) := fun h => wrS (j := 1) (by omega) (by omega)
    have hge : ∀ b', (∀ h : 0 < i, b' = rd L (wrap64 ((i : Int) - 1))) → (i : Int) > 0 → ¬ (b' ≥ rd L (i : Int)) := by
      intro b' h1 h2
      have h3 := h1 (by omega)
      rw [hwi h2, rdN (show i - 1 < L.length by omega)] at h3
      rw [h3, rdN hlt]
      have := hs (i - 1) i (by omega) hlt (by omega)
      omega
    have hge2 : (i : Int) > 0 → ¬ (rd L (wrap64 ((i : Int) - 1)) ≥ rd L (i : Int)) := hge _ (fun _ => rfl)
    have hw0 : (i : Int) > 0 → 0 ≤ wrap64 ((i : Int) - 1) := by
      intro h; rw [hwi h]; omega
    have hw1 : (i : Int) > 0 → wrap64 ((i : Int) - 1) < (L.length : Int) := by
      intro h; rw [hwi h]; omega
    rw [cuecardlaw08_KmpCuts.l0, if_pos hlt2, if_pos (by omega), if_pos hlt2, hat, wr1 (by omega)]
    simp only [Option.bind_some, if_true]
    by_cases hbt : b = true
    · rw [if_pos hbt]
      have hnext := ih (i + 1) k true (by omega) (by
        rw [hbt] at hb
        have := of_decide_eq_true hb.symm
        exact (decide_eq_true (hmem.2 (.inl this))).symm) (by omega)
      by_cases h0 : (i : Int) > 0
      · rw [if_pos h0, if_pos (hw0 h0), if_pos (hw1 h0), if_neg (hge2 h0)]; exact hnext
      · rw [if_neg h0]; exact hnext
    · rw [if_neg hbt]
      have hnext := ih (i + 1) k (rd L (i : Int) == (a : Int)) (by omega) (by
        have hb2 : b = false := by simpa using hbt
        rw [hb2] at hb
        have := of_decide_eq_false hb.symm
        rw [rdN hlt, Bool.eq_iff_iff, beq_iff_eq, decide_eq_true_eq, hmem]
        exact ⟨.inr, fun h => h.resolve_left this⟩) (by omega)
      by_cases h0 : (i : Int) > 0
      · rw [if_pos h0, if_pos (hw0 h0), if_pos (hw1 h0), if_neg (hge2 h0)]; exact hnext
      · rw [if_neg h0]; exact hnext
theorem cut_here (t : List Int) {a b : Nat} (h : a + b ≤ t.length) : ((a : Nat) : Int) ∈ places t ((t.take (a + b)).drop a) := by
  refine mem_places.2 ⟨a, rfl, by omega, ?_⟩
  have hl : ((t.take (a + b)).drop a).length = b := by rw [List.length_drop, List.length_take]; omega
  unfold stands
  rw [hl, List.drop_take, show a + b - a = b by omega, beq_iff_eq]
theorem KmpCuts (t : List Int) (a1 a2 : Int) : ∃ k, cuecardlaw08_KmpCuts.f k t a1 a2 = some true := by
  refine ⟨30002, ?_⟩
  unfold cuecardlaw08_KmpCuts.f
  rw [alive_f (by omega), Option.bind_some, if_pos rfl]
  obtain ⟨b, hg, hb⟩ := great_f [t] (by simp) (k := 30002) (by simp)
  rw [hg, Option.bind_some, cuecardlaw08_KmpCuts.j0]
  cases b with
  | true => rw [if_pos rfl, alive_f (by omega), Option.bind_some]
  | false =>
    have ht := hb rfl t (by simp)
    obtain ⟨n1, a, ha, e1⟩ := tmod_in (x := a1) (n := t.length) (by omega)
    rw [e1, wrS (by omega) ha]
    obtain ⟨n2, c, hc, e2⟩ := tmod_in (x := a2) (n := t.length - a) (by omega)
    rw [e2, wrA (by omega), if_neg (by decide), if_neg n1, if_neg n2, if_pos (by omega), if_pos (by omega), if_pos (by omega), Option.bind_some, Int.toNat_natCast, Int.toNat_natCast]
    have hyl : ((t.take (a + c)).drop a).length ≤ 100 := by rw [List.length_drop, List.length_take]; omega
    rw [all_places (by omega) (by omega), Option.bind_some]
    have hpl := places_len t ((t.take (a + c)).drop a)
    refine kc_l0 t _ _ a ht hyl rfl (cut_here t (by omega)) _ 0 30001 false (Nat.zero_add _) (by simp) (by omega)
end Go.Proofs.Ytokhmpchgkmbeaa.QA
