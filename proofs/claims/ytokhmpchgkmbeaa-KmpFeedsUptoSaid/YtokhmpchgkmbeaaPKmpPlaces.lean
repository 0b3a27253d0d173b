import Derived.Test.YtokhmpchgkmbeaaQAx5
import Derived.Test.YtokhmpchgkmbeaaQAx6
import Derived.Test.YtokhmpchgkmbeaaQAx7
import Derived.Test.YtokhmpchgkmbeaaGFirst
import Derived.KernelRfl
import Derived.Test.YtokhmpchgkmbeaaPKmpBorders
import Derived.Test.YtokhmpchgkmbeaaQAx14
import Derived.Test.YtokhmpchgkmbeaaQAx15
import Derived.Test.YtokhmpchgkmbeaaQAx16
namespace Go.Proofs.Ytokhmpchgkmbeaa.QA
open Go.RowKit Go.Proofs.YtokhmpchgkmbeaaW.PrintWords
set_option linter.unusedVariables false
set_option linter.unusedSimpArgs false
/-! ### KmpPlaces -/
theorem atB_stands {t p : List Int} {i : Nat} (hi : i ≤ t.length) : atB t p (i : Int) = stands t p i := by
  unfold atB
  rw [Int.toNat_natCast, decide_eq_true (show (0 : Int) ≤ (i : Int) ∧ (i : Int) ≤ (t.length : Int) by omega), Bool.true_and]
  cases h : stands t p i with
  | false => rw [Bool.and_false]
  | true => rw [decide_eq_true (stands_le h hi), Bool.true_and]
theorem refall_l0 (t p : List Int) (ht : t.length ≤ 1048576) : ∀ d i k : Nat, ∀ ys, i + d = t.length + 1 → ys = ((List.range i).filter (stands t p)).map (fun (j : Nat) => (j : Int)) → p.length + d + 4 ≤ k → cuecardref08_All.l0 k t p ys (i : Int) = some (places t p) := by
  intro d
  induction d with
  | zero =>
    intro i k ys hi hy hk
    obtain ⟨k, rfl⟩ : ∃ k', k = k' + 1 := ⟨k - 1, by omega⟩
    rw [cuecardref08_All.l0, if_neg (by omega), hy, show i = t.length + 1 by omega]
    rfl
  | succ d ih =>
    intro i k ys hi hy hk
    obtain ⟨k, rfl⟩ : ∃ k', k = k' + 1 := ⟨k - 1, by omega⟩
    have hyl : ys.length ≤ i := by
      rw [hy, List.length_map]
      have := List.length_filter_le (stands t p) (List.range i)
      rw [List.length_range] at this
      exact this
    rw [cuecardref08_All.l0, if_pos (by omega), at_f (by omega) _ (by omega), atB_stands (by omega), Option.bind_some, wr1 (by omega)]
    by_cases h : stands t p i = true
    · rw [if_pos h, if_pos (by omega)]
      refine ih (i + 1) k _ (by omega) ?_ (by omega)
      rw [hy, List.range_succ, List.filter_append, List.map_append, List.filter_cons_of_pos h]
      rfl
    · rw [if_neg h]
      refine ih (i + 1) k _ (by omega) ?_ (by omega)
      rw [hy, List.range_succ, List.filter_append, List.map_append, List.filter_cons_of_neg h]
      simp
theorem refall_f (t p : List Int) (ht : t.length ≤ 1048576) {k : Nat} (hk : p.length + t.length + 6 ≤ k) : cuecardref08_All.f k t p = some (places t p) :=
  refall_l0 t p ht (t.length + 1) 0 k [] (by omega) rfl (by omega)
theorem tab_uniq {l a b : List Int} (ha : a.length = l.length) (hb : b.length = l.length) (h : Tab l a l.length) (h' : Tab l b l.length) : a = b := by
  refine List.ext_getElem? fun i => ?_
  rcases Nat.lt_or_ge i l.length with hi | hi
  · obtain ⟨b, hb1, hb2, hb3, hb4⟩ := h (i + 1) (by omega) hi
    obtain ⟨b', hb1', hb2', hb3', hb4'⟩ := h' (i + 1) (by omega) hi
    rw [Nat.add_sub_cancel] at hb1 hb1'
    rw [hb1, hb1', Nat.le_antisymm (hb4' b hb2 hb3) (hb4 b' hb2' hb3')]
  · rw [List.getElem?_eq_none (by omega), List.getElem?_eq_none (by omega)]
theorem atB_cut (l : List Int) {n m : Nat} (hn : n ≤ l.length) (hm : m ≤ n) : atB (l.take n) (l.take m) ((n - m : Nat) : Int) = true ↔ l.take m <:+ l.take n := by
  have h1 : (l.take n).length = n := by rw [List.length_take]; omega
  have h2 : (l.take m).length = m := by rw [List.length_take]; omega
  have e := ends_iff (l.take n) (l.take m) (i := n - m) (by omega)
  rw [h2, show n - m + m = n by omega, List.take_take, Nat.min_self] at e
  rw [atB_stands (by omega), e]
theorem refb_l1 (l ys : List Int) (hl : l.length ≤ 1048576) {n : Nat} (h1 : 1 ≤ n) (hn : n ≤ l.length) (hy : ys.length + 1 = n) (N : Nat) (R : Option (List Int))
    (hnext : ∀ k, N ≤ k → ∀ b : Nat, b < n → l.take b <:+ l.take n → (∀ q, q < n → l.take q <:+ l.take n → q ≤ b) → cuecardref08_Borders.l0 k l (ys ++ [(b : Int)]) ((n + 1 : Nat) : Int) = R) :
    ∀ d m k b : Nat, 1 ≤ m → m + d = n → b < n → l.take b <:+ l.take n → (∀ q, q < m → l.take q <:+ l.take n → q ≤ b) → N + d + n + 4 ≤ k → cuecardref08_Borders.l1 k l ys (n : Int) (b : Int) (m : Int) = R := by
  intro d
  induction d with
  | zero =>
    intro m k b hm hd hb hs hq hk
    obtain ⟨k, rfl⟩ : ∃ k', k = k' + 1 := ⟨k - 1, by omega⟩
    rw [cuecardref08_Borders.l1, if_neg (by omega), if_pos (by omega), wr1 (by omega)]
    exact hnext k (by omega) b hb hs (fun q h => hq q (by omega))
  | succ d ih =>
    intro m k b hm hd hb hs hq hk
    obtain ⟨k, rfl⟩ : ∃ k', k = k' + 1 := ⟨k - 1, by omega⟩
    rw [cuecardref08_Borders.l1, if_pos (by omega), if_pos (by omega), if_pos (by omega), if_pos (by omega), if_pos (by omega), wrS (by omega) (by omega), Int.toNat_natCast, Int.toNat_natCast,
      at_f (by rw [List.length_take]; omega) _ (by rw [List.length_take]; omega), Option.bind_some, wr1 (by omega)]
    by_cases h : l.take m <:+ l.take n
    · rw [if_pos ((atB_cut l hn (by omega)).2 h)]
      exact ih (m + 1) k m (by omega) (by omega) (by omega) h (fun q h1 _ => by omega) (by omega)
    · rw [if_neg (mt (atB_cut l hn (by omega)).1 h)]
      refine ih (m + 1) k b (by omega) (by omega) hb hs (fun q h1 h2 => ?_) (by omega)
      rcases Nat.lt_or_ge q m with h3 | h3
      · exact hq q h3 h2
      · obtain rfl : q = m := by omega
        exact absurd h2 h
theorem refb_l0 (l : List Int) (hl : l.length ≤ 1000) (R : Option (List Int)) (hR : ∀ ys, ys.length = l.length → Tab l ys l.length → some ys = R) :
    ∀ d n k : Nat, ∀ ys, 1 ≤ n → n + d = l.length + 1 → ys.length + 1 = n → Tab l ys (n - 1) → (2 * l.length + 6) * d + 1 ≤ k → cuecardref08_Borders.l0 k l ys (n : Int) = R := by
  intro d
  induction d with
  | zero =>
    intro n k ys h1 hn hy ht hk
    obtain ⟨k, rfl⟩ : ∃ k', k = k' + 1 := ⟨k - 1, by omega⟩
    rw [cuecardref08_Borders.l0, if_neg (by omega)]
    exact hR ys (by omega) (by rwa [show n - 1 = l.length by omega] at ht)
  | succ d ih =>
    intro n k ys h1 hn hy ht hk
    rw [Nat.mul_succ] at hk
    obtain ⟨k, rfl⟩ : ∃ k', k = k' + 1 := ⟨k - 1, by omega⟩
    rw [cuecardref08_Borders.l0, if_pos (by omega)]
    refine refb_l1 l ys (by omega) h1 (by omega) hy ((2 * l.length + 6) * d + 1) R (fun k hk b hb hs hq => ?_) (n - 1) 1 k 0 (Nat.le_refl _) (by omega) (by omega) (by simp) (fun q h _ => by omega) (by omega)
    refine ih (n + 1) k _ (by omega) (by omega) (by simp; omega) ?_ hk
    intro j j1 j2
    rcases Nat.lt_or_ge j n with h | h
    · obtain ⟨b', hb1, hb2, hb3, hb4⟩ := ht j j1 (by omega)
      exact ⟨b', by rw [List.getElem?_append_left (by omega)]; exact hb1, hb2, hb3, hb4⟩
    · obtain rfl : j = n := by omega
      exact ⟨b, by rw [List.getElem?_append_right (by omega), show j - 1 - ys.length = 0 by omega]; rfl, hb, hs, hq⟩
theorem borders_same (l : List Int) (hl : l.length ≤ 100) {k : Nat} (hk : 20900 ≤ k) : ∃ back, kmp_Borders_int.f k l = some back ∧ cuecardref08_Borders.f k l = some back ∧ back.length = l.length := by
  obtain ⟨back, h1, h2, h3⟩ := borders_ok l (by omega)
  refine ⟨back, h3 k (by omega), ?_, h1⟩
  have hm : (2 * l.length + 6) * l.length ≤ 206 * 100 := Nat.mul_le_mul (by omega) hl
  exact refb_l0 l (by omega) (some back) (fun ys hy ht => by rw [tab_uniq hy h1 ht h2]) l.length 1 k [] (Nat.le_refl _) (by omega) rfl (fun j _ _ => by omega) (by omega)
theorem all_places {k : Nat} {t p : List Int} (ht : t.length ≤ 1048576) (hp : p.length ≤ 1048576) : cuecardlaw08_all.f k t p = some (places t p) := by
  unfold cuecardlaw08_all.f
  rw [if_pos ⟨ht, hp⟩]
theorem first_places {k : Nat} {t p : List Int} (ht : t.length ≤ 1048576) (hp : p.length ≤ 1048576) : kmp_First_int.f k t p = some ((places t p).headD 0, !(places t p).isEmpty) := by
  unfold kmp_First_int.f
  rw [if_pos ⟨ht, hp⟩]
theorem places_len (t p : List Int) : (places t p).length ≤ t.length + 1 := by
  unfold places
  rw [List.length_map]
  have := List.length_filter_le (stands t p) (List.range (t.length + 1))
  rw [List.length_range] at this
  omega
theorem same_self {a : List Int} (hs : a.length ≤ 4294967296) {k : Nat} (hk : a.length + 1 ≤ k) : cuecardref01_Same.f k a a = some true := by
  rw [same_f hs hk, decide_eq_true rfl]
theorem KmpPlaces (t p : List Int) : ∃ k, cuecardlaw08_KmpPlaces.f k t p = some true := by
  refine ⟨30002, ?_⟩
  unfold cuecardlaw08_KmpPlaces.f
  rw [alive_f (by omega), Option.bind_some, if_pos rfl]
  obtain ⟨b, hg, hb⟩ := great_f [t, p] (by simp) (k := 30002) (by simp)
  rw [hg, Option.bind_some, cuecardlaw08_KmpPlaces.j0]
  cases b with
  | true => rw [if_pos rfl, alive_f (by omega), Option.bind_some]
  | false =>
    have ht := hb rfl t (by simp)
    have hp := hb rfl p (by simp)
    have hpl := places_len t p
    obtain ⟨b1, e1, e2, e3⟩ := borders_same t ht (k := 30000) (by omega)
    obtain ⟨b2, e4, e5, e6⟩ := borders_same p hp (k := 30000) (by omega)
    have hj : cuecardlaw08_KmpPlaces.j1 30001 t p (places t p) false = some true := by
      rw [cuecardlaw08_KmpPlaces.j1, if_neg (by decide), all_places (by omega) (by omega), Option.bind_some, same_self (by omega) (by omega), Option.bind_some, if_pos rfl, e1, Option.bind_some, e2, Option.bind_some, same_self (by omega) (by omega), Option.bind_some, if_pos rfl,
        e4, Option.bind_some, e5, Option.bind_some, same_self (by omega) (by omega), Option.bind_some]
    rw [if_neg (by decide), refall_f t p (by omega) (by omega), Option.bind_some, first_places (by omega) (by omega), Option.bind_some]
    clear hpl
    generalize places t p = L at hj ⊢
    cases L with
    | nil => exact hj
    | cons x L =>
      have h0 : ((x :: L).length : Int) > 0 := by rw [List.length_cons]; omega
      exact (if_neg (show ¬ ((true != decide (((x :: L).length : Int) > 0)) = true) by rw [decide_eq_true h0]; decide)).trans ((if_pos (show true = true from rfl)).trans ((if_pos h0).trans ((if_pos (show x = rd (x :: L) 0 by simp [rd])).trans hj)))
end Go.Proofs.Ytokhmpchgkmbeaa.QA
