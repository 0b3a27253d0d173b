import Derived.RangeFuncNested
import Derived.RangeFuncBound
import Derived.RangeFuncCalls
import Derived.RangeFuncLeaves
import Derived.Shelf.Abstract
import Derived.Shelf.RegionOpen
import Derived.WalkKit
import Derived.OwnWalkIn
import Derived.TacticsInMore
import Derived.LoopNIn
import Derived.LoopIn
import Derived.Maps.AppendAt
import Derived.StillTailTactics
import Derived.Lib.Hide
import Derived.Outline
import Derived.Deep.RegionWith
import Derived.Deep.RegionLaw
import Derived.Deep.AppendLies
import Derived.Test.YtokhmpchgkmbeaaQAx1
import Derived.Test.YtokhmpchgkmbeaaQAx2
namespace Go.Proofs.Ytokhmpchgkmbeaa.QA
open Go.RowKit Go.Shelf Go.Proofs.YtokhmpchgkmbeaaW.PrintWords Go.Proofs.YtokhmpchgkmbeaaW.PrintLast Go.Proofs.YtokhmpchgkmbeaaW.PrintMore
set_option linter.unusedVariables false
set_option linter.unusedSimpArgs false
/-! ### longest borders -/
theorem wrapId {n : Int} (h : -9223372036854775808 ≤ n ∧ n ≤ 9223372036854775807) : wrap64 n = n := by unfold wrap64; omega
/-- k things of p's beginning are the last ones of s -/
def Bord (p s : List Int) (k : Nat) : Prop := k ≤ p.length ∧ p.take k <:+ s
/-- .. and no more of them are -/
def Best (p s : List Int) (k : Nat) : Prop := Bord p s k ∧ ∀ j, Bord p s j → j ≤ k
theorem bord_len {p s : List Int} {k : Nat} (h : Bord p s k) : k ≤ s.length := by
  have := h.2.length_le
  rw [List.length_take] at this
  have := h.1
  omega
theorem best_uniq {p s : List Int} {a b : Nat} (ha : Best p s a) (hb : Best p s b) : a = b := Nat.le_antisymm (hb.2 _ ha.1) (ha.2 _ hb.1)
theorem best_ex_upto (p s : List Int) : ∀ n, ∃ k, k ≤ n ∧ Bord p s k ∧ ∀ j, j ≤ n → Bord p s j → j ≤ k
  | 0 => ⟨0, Nat.le_refl _, ⟨Nat.zero_le _, by simp⟩, fun j h _ => h⟩
  | n + 1 => by
    obtain ⟨k, h1, h2, h3⟩ := best_ex_upto p s n
    rcases Classical.em (Bord p s (n + 1)) with h | h
    · exact ⟨n + 1, Nat.le_refl _, h, fun j hj _ => hj⟩
    · refine ⟨k, by omega, h2, fun j hj hb => ?_⟩
      rcases Nat.lt_or_ge n j with h' | h'
      · obtain rfl : j = n + 1 := by omega
        exact absurd hb h
      · exact h3 j h' hb
theorem best_ex (p s : List Int) : ∃ k, Best p s k := by
  obtain ⟨k, _, h2, h3⟩ := best_ex_upto p s p.length
  exact ⟨k, h2, fun j hj => h3 j hj.1 hj⟩
noncomputable def best (p s : List Int) : Nat := (best_ex p s).choose
theorem best_is (p s : List Int) : Best p s (best p s) := (best_ex p s).choose_spec
theorem best_eq {p s : List Int} {k : Nat} (h : Best p s k) : best p s = k := best_uniq (best_is p s) h
theorem snoc_suffix {a s : List Int} {y x : Int} : a ++ [y] <:+ s ++ [x] ↔ a <:+ s ∧ y = x := by
  rw [← List.reverse_prefix, ← List.reverse_prefix, List.reverse_append, List.reverse_append, List.reverse_singleton, List.reverse_singleton, List.singleton_append, List.singleton_append, List.cons_prefix_cons]
  exact And.comm
theorem take_snoc {p : List Int} {k : Nat} {x : Int} (h : p[k]? = some x) : p.take (k + 1) = p.take k ++ [x] := by
  obtain ⟨hlt, rfl⟩ := List.getElem?_eq_some_iff.1 h
  exact List.take_succ_eq_append_getElem hlt
/-- one thing more -/
theorem bord_snoc {p s : List Int} {x : Int} {k : Nat} : Bord p (s ++ [x]) (k + 1) ↔ p[k]? = some x ∧ Bord p s k := by
  constructor
  · rintro ⟨h1, h2⟩
    have hk : p[k]? = some p[k] := List.getElem?_eq_getElem (by omega)
    rw [take_snoc hk, snoc_suffix] at h2
    exact ⟨by rw [hk, h2.2], by omega, h2.1⟩
  · rintro ⟨h1, h2, h3⟩
    have hk := (List.getElem?_eq_some_iff.1 h1).1
    exact ⟨hk, by rw [take_snoc h1, snoc_suffix]; exact ⟨h3, rfl⟩⟩
/-- the table of borders, for the first n beginnings -/
def Tab (p : List Int) (back : List Int) (n : Nat) : Prop :=
  ∀ j, 1 ≤ j → j ≤ n → ∃ b : Nat, back[j - 1]? = some (b : Int) ∧ b < j ∧ p.take b <:+ p.take j ∧ ∀ i, i < j → p.take i <:+ p.take j → i ≤ b
theorem tab_mono {p back : List Int} {n m : Nat} (h : Tab p back n) (hm : m ≤ n) : Tab p back m := fun j h1 h2 => h j h1 (by omega)
theorem rd_get {xs : List Int} {i : Nat} {b : Int} (h : xs[i]? = some b) : rd xs (i : Int) = b := by
  simp [rd, List.getD_eq_getElem?_getD, h]
/-- kmp.next -/
theorem next_ok (p back s : List Int) (x : Int) (hp : p.length ≤ 1048576) : ∀ c k : Nat, Bord p s c → Tab p back c → (∀ j, c < j → p[j]? = some x → ¬ Bord p s j) → 2 * c + 2 ≤ k →
    ∃ r : Nat, kmp_next_int.f k p back c x = some (r : Int) ∧ Best p (s ++ [x]) r := by
  intro c
  induction c using Nat.strongRecOn with
  | ind c ih =>
    intro k hb ht hmax hk
    obtain ⟨k, rfl⟩ : ∃ k', k = k' + 1 + 1 := ⟨k - 2, by omega⟩
    have hcl := hb.1
    show ∃ r : Nat, kmp_next_int.l0 (k + 1 + 1) p back c x = _ ∧ _
    by_cases hx : p[c]? = some x
    · have hlt : c < p.length := (List.getElem?_eq_some_iff.1 hx).1
      refine ⟨c + 1, ?_, bord_snoc.2 ⟨hx, hb⟩, ?_⟩
      · rw [kmp_next_int.l0, if_pos (by omega), if_pos (by omega), rd_get hx, kmp_next_int.j1, if_pos (by simp), wrapId (by omega)]
        rfl
      · intro j hj
        rcases j with _ | j
        · omega
        · obtain ⟨h1, h2⟩ := bord_snoc.1 hj
          rcases Nat.lt_or_ge c j with h | h
          · exact absurd h2 (hmax j h h1)
          · omega
    · have hno : (if (c : Int) < (p.length : Int) then (if 0 ≤ (c : Int) then kmp_next_int.j1 (k + 1) p back c x (rd p c == x) else none) else kmp_next_int.j1 (k + 1) p back c x false) = kmp_next_int.j1 (k + 1) p back c x false := by
        by_cases hlt : c < p.length
        · have hk2 : p[c]? = some p[c] := List.getElem?_eq_getElem hlt
          rw [if_pos (by omega), if_pos (by omega), rd_get hk2, beq_eq_false_iff_ne.2 (fun e => hx (by rw [hk2, e]))]
        · rw [if_neg (by omega)]
      rcases Nat.eq_zero_or_pos c with h0 | h0
      · subst h0
        refine ⟨0, ?_, ⟨Nat.zero_le _, by simp⟩, ?_⟩
        · rw [kmp_next_int.l0, hno, kmp_next_int.j1, if_neg (by simp), if_pos (show ((0 : Nat) : Int) = 0 from rfl)]
          rfl
        · intro j hj
          rcases j with _ | j
          · omega
          · obtain ⟨h1, h2⟩ := bord_snoc.1 hj
            rcases Nat.eq_zero_or_pos j with h | h
            · subst h; exact absurd h1 hx
            · exact absurd h2 (hmax j h h1)
      · obtain ⟨b, hb1, hb2, hb3, hb4⟩ := ht c h0 (Nat.le_refl _)
        have hbl : (c - 1) < back.length := (List.getElem?_eq_some_iff.1 hb1).1
        have hbb : Bord p s b := ⟨by omega, hb3.trans hb.2⟩
        obtain ⟨r, hr, hbest⟩ := ih b hb2 k hbb (tab_mono ht (by omega)) (fun j hj h1 h2 => by
          rcases Nat.lt_trichotomy j c with h | h | h
          · have hs : p.take j <:+ p.take c := List.suffix_of_suffix_length_le h2.2 hb.2 (by rw [List.length_take, List.length_take]; omega)
            have := hb4 j h hs
            omega
          · subst h; exact hx h1
          · exact hmax j h h1 h2) (by omega)
        refine ⟨r, ?_, hbest⟩
        have hw : wrap64 ((c : Int) - 1) = ((c - 1 : Nat) : Int) := by rw [wrapId (by omega)]; omega
        rw [kmp_next_int.l0, hno, kmp_next_int.j1, if_neg (by simp), if_neg (by omega), hw, if_pos (by omega), if_pos (by omega), rd_get hb1]
        exact hr
/-- what kmp.Borders is behind so many rounds -/
theorem borders_loop (l : List Int) (hl : l.length ≤ 1048576) : ∀ d i k : Nat, ∀ b : List Int, 1 ≤ i → i + d = l.length → b.length = l.length → Tab l b i → 3 * d + 2 * l.length + 4 ≤ k →
    ∃ back, kmp_Borders_int.l0 k l b i = some back ∧ back.length = l.length ∧ Tab l back l.length := by
  intro d
  induction d with
  | zero =>
    intro i k b h1 hi hb ht hk
    obtain ⟨k, rfl⟩ : ∃ k', k = k' + 1 := ⟨k - 1, by omega⟩
    refine ⟨b, ?_, hb, by rw [← hi]; exact ht⟩
    rw [kmp_Borders_int.l0, if_neg (by omega)]
  | succ d ih =>
    intro i k b h1 hi hb ht hk
    obtain ⟨k, rfl⟩ : ∃ k', k = k' + 1 := ⟨k - 1, by omega⟩
    have hlt : i < l.length := by omega
    obtain ⟨c, hc1, hc2, hc3, hc4⟩ := ht i h1 (Nat.le_refl _)
    have hx : l[i]? = some l[i] := List.getElem?_eq_getElem hlt
    generalize l[i] = x at hx
    have hpl : (l.take i).length = i := by rw [List.length_take]; omega
    have htt : ∀ j, j ≤ i → (l.take i).take j = l.take j := fun j hj => by rw [List.take_take, Nat.min_eq_left hj]
    have hs : ∀ j, j < i → (l.take j <:+ (l.take i).drop 1 ↔ l.take j <:+ l.take i) := fun j hj => by
      constructor
      · exact fun h => h.trans (List.drop_suffix _ _)
      · exact fun h => List.suffix_of_suffix_length_le h (List.drop_suffix _ _) (by rw [List.length_take, List.length_drop, List.length_take]; omega)
    have hbd : Bord (l.take i) ((l.take i).drop 1) c := ⟨by omega, by rw [htt c (by omega)]; exact (hs c hc2).2 hc3⟩
    have ht' : Tab (l.take i) b c := fun j h1 h2 => by
      obtain ⟨e, he1, he2, he3, he4⟩ := ht j h1 (by omega)
      refine ⟨e, he1, he2, ?_, ?_⟩
      · rw [htt e (by omega), htt j (by omega)]; exact he3
      · intro q hq h
        rw [htt q (by omega), htt j (by omega)] at h
        exact he4 q hq h
    obtain ⟨r, hr, hbest⟩ := next_ok (l.take i) b ((l.take i).drop 1) x (by omega) c k hbd ht' (fun j hj _ h => by
      have h1 := bord_len h
      rw [List.length_drop, hpl] at h1
      have h2 := h.2
      rw [htt j (by omega)] at h2
      have := hc4 j (by omega) ((hs j (by omega)).1 h2)
      omega) (by omega)
    have hx1 : (l.take i).drop 1 ++ [x] = (l.take (i + 1)).drop 1 := by
      rw [take_snoc hx, List.drop_append_of_le_length (by omega)]
    rw [hx1] at hbest
    have hri : r ≤ i := by have := hbest.1.1; omega
    have hs' : ∀ j, j ≤ i → (l.take j <:+ (l.take (i + 1)).drop 1 ↔ l.take j <:+ l.take (i + 1)) := fun j hj => by
      constructor
      · exact fun h => h.trans (List.drop_suffix _ _)
      · exact fun h => List.suffix_of_suffix_length_le h (List.drop_suffix _ _) (by rw [List.length_take, List.length_drop, List.length_take]; omega)
    have htab : Tab l (b.set i (r : Int)) (i + 1) := by
      intro j h1 h2
      rcases Nat.lt_or_ge i j with h | h
      · have hj : j = i + 1 := Nat.le_antisymm h2 h
        subst hj
        have e0 : i + 1 - 1 = i := rfl
        have hset : (b.set i (r : Int))[i + 1 - 1]? = some (r : Int) := by
          rw [e0]
          exact List.getElem?_set_self (by omega)
        refine ⟨r, hset, Nat.lt_succ_of_le hri, ?_, ?_⟩
        · have h := hbest.1.2
          rw [htt r hri] at h
          exact (hs' r hri).1 h
        · intro q hq h
          have hq2 : q ≤ i := Nat.le_of_lt_succ hq
          exact hbest.2 q ⟨by rw [hpl]; exact hq2, by rw [htt q hq2]; exact (hs' q hq2).2 h⟩
      · obtain ⟨e, he1, he2⟩ := ht j h1 h
        exact ⟨e, (List.getElem?_set_ne (by omega)).trans he1, he2⟩
    have hlen2 : (b.set i (r : Int)).length = l.length := by rw [List.length_set]; exact hb
    have hfu : 3 * d + 2 * l.length + 4 ≤ k := by omega
    have hid : i + 1 + d = l.length := by omega
    obtain ⟨back, hb1, hb2, hb3⟩ := ih (i + 1) k (b.set i (r : Int)) (Nat.le_add_left 1 i) hid hlen2 htab hfu
    refine ⟨back, ?_, hb2, hb3⟩
    have g1 : (i : Int) < (l.length : Int) := by omega
    have g2 : (0 : Int) ≤ (i : Int) := by omega
    have g3 : (i : Int) ≤ (l.length : Int) := by omega
    have g4 : (0 : Int) ≤ ((i - 1 : Nat) : Int) := by omega
    have g5 : ((i - 1 : Nat) : Int) < (b.length : Int) := by omega
    have g6 : (i : Int) < (b.length : Int) := by omega
    have hw1 : wrap64 ((i : Int) - 1) = ((i - 1 : Nat) : Int) := (wrapId (by omega)).trans (by omega)
    have hw2 : wrap64 ((i : Int) + 1) = ((i + 1 : Nat) : Int) := (wrapId (by clear hw1; omega)).trans (by clear hw1; omega)
    rw [kmp_Borders_int.l0, if_pos g1, if_pos g2, if_pos g3, hw1, if_pos g4, if_pos g5, rd_get hc1, rd_get hx, Int.toNat_natCast, hr, Option.bind_some, if_pos g6, hw2]
    exact hb1
/-- kmp.Borders -/
theorem borders_ok (l : List Int) (hl : l.length ≤ 1048576) : ∃ back, back.length = l.length ∧ Tab l back l.length ∧ ∀ k, 5 * l.length + 4 ≤ k → kmp_Borders_int.f k l = some back := by
  have key : ∀ k, 5 * l.length + 4 ≤ k → ∃ back, kmp_Borders_int.f k l = some back ∧ back.length = l.length ∧ Tab l back l.length := by
    intro k hk
    unfold kmp_Borders_int.f
    rw [if_pos (by omega), Int.toNat_natCast, if_pos (by omega)]
    rcases Nat.eq_zero_or_pos l.length with h | h
    · obtain ⟨k, rfl⟩ : ∃ k', k = k' + 1 := ⟨k - 1, by omega⟩
      refine ⟨List.replicate l.length 0, ?_, by simp, fun j h1 h2 => by omega⟩
      rw [kmp_Borders_int.l0, if_neg (by omega)]
    · refine borders_loop l hl (l.length - 1) 1 k _ (Nat.le_refl _) (by omega) (by simp) ?_ (by omega)
      intro j h1 h2
      obtain rfl : j = 1 := by omega
      refine ⟨0, by simp [h], by omega, by simp, fun i hi _ => by omega⟩
  obtain ⟨back, h1, h2, h3⟩ := key _ (Nat.le_refl _)
  refine ⟨back, h2, h3, fun k hk => ?_⟩
  obtain ⟨back', h1', h2', h3'⟩ := key k hk
  rw [h1']
  refine congrArg some (List.ext_getElem? fun i => ?_)
  rcases Nat.lt_or_ge i l.length with hi | hi
  · obtain ⟨b, hb1, hb2, hb3, hb4⟩ := h3 (i + 1) (by omega) hi
    obtain ⟨b', hb1', hb2', hb3', hb4'⟩ := h3' (i + 1) (by omega) hi
    rw [Nat.add_sub_cancel] at hb1 hb1'
    rw [hb1, hb1', Nat.le_antisymm (hb4 b' hb2' hb3') (hb4' b hb2 hb3)]
  · rw [List.getElem?_eq_none (by omega), List.getElem?_eq_none (by omega)]
end Go.Proofs.Ytokhmpchgkmbeaa.QA
