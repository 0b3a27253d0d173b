import Derived.Lib.Hide
import Derived.Test.YtdbnmccflbkcoaaPlain
import Derived.Test.YtdbnmccflbkcoaaQAx7
import Derived.Test.YtdbnmccflbkcoaaQAx8
import Derived.Test.YtdbnmccflbkcoaaQAx9
namespace Go.Proofs.Ytdbnmccflbkcoaa.QA
open Go.RowKit Go.Proofs.YtdbnmccflbkcoaaW.PrintWords Go.Proofs.YtdbnmccflbkcoaaW.PrintMore
set_option linter.unusedVariables false
set_option linter.unusedSimpArgs false
/-! ### what is merged -/
def mstep (out : List S32) (e : S32) : List S32 :=
  if e.f2.length = 0 then out else match out.getLast? with
    | none => out ++ [e]
    | some p => if p.f0 = e.f0 then out.dropLast ++ [⟨p.f0, p.f1, p.f2 ++ e.f2⟩] else out ++ [e]
def mrg (l : List S32) : List S32 := l.foldl mstep []
theorem mstep_nil {out : List S32} {e : S32} (h : e.f2.length = 0) : mstep out e = out := if_pos h
theorem mstep_first {e : S32} (h : e.f2.length ≠ 0) : mstep [] e = [e] := by unfold mstep; rw [if_neg h]; rfl
theorem mstep_join {L : List S32} {p e : S32} (h : e.f2.length ≠ 0) (hp : p.f0 = e.f0) : mstep (L ++ [p]) e = L ++ [⟨p.f0, p.f1, p.f2 ++ e.f2⟩] := by
  unfold mstep
  rw [if_neg h, List.getLast?_concat]
  simp only [if_pos hp, List.dropLast_concat]
theorem mstep_far {L : List S32} {p e : S32} (h : e.f2.length ≠ 0) (hp : p.f0 ≠ e.f0) : mstep (L ++ [p]) e = L ++ [p] ++ [e] := by
  unfold mstep
  rw [if_neg h, List.getLast?_concat]
  simp only [if_neg hp]
theorem tot_append (l m : List S32) : tot (l ++ m) = tot l + tot m := by simp [tot]
theorem tot_one (x : S32) : tot [x] = x.f2.length := by simp [tot]
theorem set_last {L : List S32} {p q : S32} : (L ++ [p]).set L.length q = L ++ [q] := by
  rw [List.set_append_right _ _ (Nat.le_refl _), Nat.sub_self]
  rfl
theorem clone_f {l : List Int} (h : l.length ≤ 1048576) (k : Nat) : bytes_Clone.f k l = some l := by
  unfold bytes_Clone.f
  rw [if_pos (by omega)]
theorem merge_l0 (l : List S32) (hlen : l.length ≤ 1048576) (d : Nat) : ∀ (i k : Nat) (out : List S32), i + d = l.length → d < k → out.length + d ≤ 1048576 → tot out + tot (l.drop i) ≤ 1048576 →
    event_Merge.l0 k out l (l.length : Int) (i : Int) = some ((l.drop i).foldl mstep out) := by
  induction d with
  | zero =>
    intro i k out hi hk hl ht
    obtain ⟨k, rfl⟩ : ∃ m, k = m + 1 := ⟨k - 1, by omega⟩
    rw [event_Merge.l0, if_neg (by omega), List.drop_of_length_le (by omega)]
    rfl
  | succ d ih =>
    intro i k out hi hk hl ht
    obtain ⟨k, rfl⟩ : ∃ m, k = m + 1 := ⟨k - 1, by omega⟩
    have hlt : i < l.length := by omega
    rw [List.drop_eq_getElem_cons hlt, tot_cons] at ht
    rw [event_Merge.l0, if_pos (by omega), if_pos (by omega), if_pos (by omega), rdT l i hlt, List.drop_eq_getElem_cons hlt, List.foldl_cons]
    by_cases h0 : l[i].f2.length = 0
    · rw [if_pos (by omega), wr_i (by omega), mstep_nil h0]
      exact ih (i + 1) k out (by omega) (by omega) (by omega) (by omega)
    rw [if_neg (by omega)]
    rcases List.eq_nil_or_concat out with rfl | ⟨L, p, rfl⟩
    · rw [if_neg (by simp), clone_f (by omega)]
      simp only [Option.bind_some]
      rw [if_pos (by simp), wr_i (by omega), mstep_first h0]
      exact ih (i + 1) k [l[i]] (by omega) (by omega) (by simp at hl ⊢; omega) (by rw [tot_one]; omega)
    · rw [List.concat_eq_append] at *
      simp only [List.length_append, List.length_cons, List.length_nil] at hl
      rw [tot_append, tot_one] at ht
      have hw := Lib.hid (show wrap64 (((L ++ [p]).length : Int) - 1) = (L.length : Int) by rw [List.length_append, List.length_singleton]; unfold wrap64; omega)
      rw [if_pos (by rw [List.length_append, List.length_singleton]; omega), hw.out, if_pos (by omega), if_pos (by rw [List.length_append, List.length_singleton]; omega), rdT (L ++ [p]) L.length (by simp)]
      rw [show (L ++ [p])[L.length]'(by simp) = p from List.getElem_concat_length rfl _]
      by_cases hp : p.f0 = l[i].f0
      · rw [if_pos hp, if_pos (by omega), Int.toNat_natCast, set_last, wr_i (by omega), mstep_join h0 hp]
        exact ih (i + 1) k _ (by omega) (by omega) (by simp; omega) (by rw [tot_append, tot_one, List.length_append]; omega)
      · rw [if_neg hp, clone_f (by omega)]
        simp only [Option.bind_some]
        rw [if_pos (by simp; omega), wr_i (by omega), mstep_far h0 hp]
        exact ih (i + 1) k (L ++ [p] ++ [l[i]]) (by omega) (by omega) (by simp; omega) (by rw [tot_append, tot_append, tot_one, tot_one]; omega)
theorem merge_f (l : List S32) (h : small l) {k : Nat} (hk : l.length < k) : event_Merge.f k l = some (mrg l) := by
  have ht := small_tot h
  exact merge_l0 l (by omega) l.length 0 k [] (by omega) (by omega) (by simp; omega) (by simp [tot] at ht ⊢; omega)
theorem refmerge_l0 (l : List S32) (hlen : l.length ≤ 1048576) (d : Nat) : ∀ (i k : Nat) (out : List S32), i + d = l.length → d < k → out.length + d ≤ 1048576 → tot out + tot (l.drop i) ≤ 1048576 →
    cuecardref04_Merge.l0 k l out (i : Int) = some ((l.drop i).foldl mstep out) := by
  induction d with
  | zero =>
    intro i k out hi hk hl ht
    obtain ⟨k, rfl⟩ : ∃ m, k = m + 1 := ⟨k - 1, by omega⟩
    rw [cuecardref04_Merge.l0, if_neg (by omega), List.drop_of_length_le (by omega)]
    rfl
  | succ d ih =>
    intro i k out hi hk hl ht
    obtain ⟨k, rfl⟩ : ∃ m, k = m + 1 := ⟨k - 1, by omega⟩
    have hlt : i < l.length := by omega
    rw [List.drop_eq_getElem_cons hlt, tot_cons] at ht
    rw [cuecardref04_Merge.l0, if_pos (by omega), if_pos (by omega), rdT l i hlt, List.drop_eq_getElem_cons hlt, List.foldl_cons]
    by_cases h0 : l[i].f2.length = 0
    · rw [if_pos (by omega), wr_i (by omega), mstep_nil h0]
      exact ih (i + 1) k out (by omega) (by omega) (by omega) (by omega)
    rw [if_neg (by omega)]
    rcases List.eq_nil_or_concat out with rfl | ⟨L, p, rfl⟩
    · rw [if_neg (by rw [show wrap64 ((([] : List S32).length : Int) - 1) = -1 by simp only [List.length_nil]; unfold wrap64; omega]; omega)]
      simp only [Option.bind_some, List.nil_append]
      rw [if_pos (by simp; omega), if_pos (by simp), wr_i (by omega), mstep_first h0]
      exact ih (i + 1) k [l[i]] (by omega) (by omega) (by simp at hl ⊢; omega) (by rw [tot_one]; omega)
    · rw [List.concat_eq_append] at *
      simp only [List.length_append, List.length_cons, List.length_nil] at hl
      rw [tot_append, tot_one] at ht
      have hw := Lib.hid (show wrap64 (((L ++ [p]).length : Int) - 1) = (L.length : Int) by rw [List.length_append, List.length_singleton]; unfold wrap64; omega)
      rw [hw.out, if_pos (by omega), if_pos (by omega), if_pos (by rw [List.length_append, List.length_singleton]; omega), rdT (L ++ [p]) L.length (by simp)]
      rw [show (L ++ [p])[L.length]'(by simp) = p from List.getElem_concat_length rfl _]
      by_cases hp : p.f0 = l[i].f0
      · rw [if_pos hp, if_pos (by omega), Int.toNat_natCast, set_last, wr_i (by omega), mstep_join h0 hp]
        exact ih (i + 1) k _ (by omega) (by omega) (by simp; omega) (by rw [tot_append, tot_one, List.length_append]; omega)
      · rw [if_neg hp]
        simp only [Option.bind_some, List.nil_append]
        rw [if_pos (by simp; omega), if_pos (by simp; omega), wr_i (by omega), mstep_far h0 hp]
        exact ih (i + 1) k (L ++ [p] ++ [l[i]]) (by omega) (by omega) (by simp; omega) (by rw [tot_append, tot_append, tot_one, tot_one]; omega)
theorem refmerge_f (l : List S32) (h : small l) {k : Nat} (hk : l.length < k) : cuecardref04_Merge.f k l = some (mrg l) := by
  have ht := small_tot h
  exact refmerge_l0 l (by omega) l.length 0 k [] (by omega) (by omega) (by simp; omega) (by simp [tot] at ht ⊢; omega)
/-- what holds of each step holds of what is merged -/
theorem mrg_ind {Q : List S32 → List S32 → Prop} (l : List S32) (h0 : Q [] l) (hs : ∀ out e r, Q out (e :: r) → Q (mstep out e) r) : Q (mrg l) [] := by
  have key : ∀ (r out : List S32), Q out r → Q (r.foldl mstep out) [] := by
    intro r
    induction r with
    | nil => intro out h; exact h
    | cons e r ih => intro out h; exact ih _ (hs out e r h)
  exact key l [] h0
theorem mstep_cases (out : List S32) (e : S32) : (e.f2.length = 0 ∧ mstep out e = out) ∨ (e.f2.length ≠ 0 ∧ ((out = [] ∧ mstep out e = [e]) ∨ ∃ L p, out = L ++ [p] ∧ ((p.f0 = e.f0 ∧ mstep out e = L ++ [⟨p.f0, p.f1, p.f2 ++ e.f2⟩]) ∨ (p.f0 ≠ e.f0 ∧ mstep out e = L ++ [p] ++ [e])))) := by
  by_cases h : e.f2.length = 0
  · exact .inl ⟨h, mstep_nil h⟩
  · refine .inr ⟨h, ?_⟩
    rcases List.eq_nil_or_concat out with rfl | ⟨L, p, rfl⟩
    · exact .inl ⟨rfl, mstep_first h⟩
    · rw [List.concat_eq_append]
      refine .inr ⟨L, p, rfl, ?_⟩
      by_cases hp : p.f0 = e.f0
      · exact .inl ⟨hp, mstep_join h hp⟩
      · exact .inr ⟨hp, mstep_far h hp⟩
theorem way_append (d : Int) (l m : List S32) : way d (l ++ m) = way d l ++ way d m := by simp [way]
theorem way_one (d : Int) (x : S32) : way d [x] = if x.f0 = d then x.f2 else [] := by
  rw [way_cons]
  simp [way]
theorem way_mrg (d : Int) (l : List S32) : way d (mrg l) = way d l := by
  have := mrg_ind (Q := fun out r => way d out ++ way d r = way d l) l (by simp [way]) (fun out e r h => by
    rw [← h, way_cons]
    rcases mstep_cases out e with ⟨h0, hm⟩ | ⟨h0, ⟨rfl, hm⟩ | ⟨L, p, rfl, ⟨hp, hm⟩ | ⟨hp, hm⟩⟩⟩
    · rw [hm, show e.f2 = [] from List.eq_nil_of_length_eq_zero h0]; simp
    · rw [hm, way_one]; simp [way]
    · rw [hm, way_append, way_append, way_one, way_one]
      by_cases hd : p.f0 = d
      · rw [if_pos hd, if_pos hd, if_pos (by omega)]; simp
      · rw [if_neg hd, if_neg hd, if_neg (by omega)]; simp
    · rw [hm, way_append, way_append, way_one _ e]; simp)
  simpa [way] using this
/-- no empty event, no two neighbours of one direction -/
def Inv (l : List S32) : Prop := (∀ x ∈ l, x.f2.length ≠ 0) ∧ ∀ (j : Nat) x y, l[j]? = some x → l[j + 1]? = some y → x.f0 ≠ y.f0
theorem Inv.snoc {L : List S32} {p : S32} (h : Inv L) (hp : p.f2.length ≠ 0) (hl : ∀ q, L.getLast? = some q → q.f0 ≠ p.f0) : Inv (L ++ [p]) := by
  refine ⟨fun x hx => ?_, fun j x y hx hy => ?_⟩
  · rcases List.mem_append.1 hx with hx | hx
    · exact h.1 x hx
    · rw [List.mem_singleton.1 hx]; exact hp
  · have hj : j + 1 < (L ++ [p]).length := (List.getElem?_eq_some_iff.1 hy).1
    simp only [List.length_append, List.length_cons, List.length_nil] at hj
    rw [List.getElem?_append_left (by omega)] at hx
    rcases Nat.lt_or_ge (j + 1) L.length with h1 | h1
    · rw [List.getElem?_append_left h1] at hy
      exact h.2 j x y hx hy
    · have hj2 : j = L.length - 1 := by omega
      rw [List.getElem?_append_right h1, show j + 1 - L.length = 0 by omega] at hy
      obtain rfl : p = y := by simpa using hy
      exact hl x (by rw [List.getLast?_eq_getElem?, ← hj2]; exact hx)
theorem Inv.front {L : List S32} {p : S32} (h : Inv (L ++ [p])) : Inv L ∧ p.f2.length ≠ 0 ∧ ∀ q, L.getLast? = some q → q.f0 ≠ p.f0 := by
  refine ⟨⟨fun x hx => h.1 x (List.mem_append_left _ hx), fun j x y hx hy => ?_⟩, h.1 p (by simp), fun q hq => ?_⟩
  · have h1 := (List.getElem?_eq_some_iff.1 hx).1
    have h2 := (List.getElem?_eq_some_iff.1 hy).1
    exact h.2 j x y (by rw [List.getElem?_append_left h1]; exact hx) (by rw [List.getElem?_append_left h2]; exact hy)
  · rw [List.getLast?_eq_getElem?] at hq
    have h1 := (List.getElem?_eq_some_iff.1 hq).1
    refine h.2 (L.length - 1) q p (by rw [List.getElem?_append_left h1]; exact hq) ?_
    rw [show L.length - 1 + 1 = L.length by omega, List.getElem?_concat_length]
theorem inv_mrg (l : List S32) : Inv (mrg l) := by
  refine mrg_ind (Q := fun out _ => Inv out) l ⟨by simp, by simp⟩ (fun out e r h => ?_)
  rcases mstep_cases out e with ⟨h0, hm⟩ | ⟨h0, ⟨rfl, hm⟩ | ⟨L, p, rfl, ⟨hp, hm⟩ | ⟨hp, hm⟩⟩⟩
  · rw [hm]; exact h
  · rw [hm]; exact Inv.snoc (L := []) h h0 (by simp)
  · rw [hm]
    obtain ⟨h1, h2, h3⟩ := h.front
    exact h1.snoc (by rw [List.length_append]; omega) h3
  · rw [hm]
    exact h.snoc h0 (fun q hq => by rw [List.getLast?_concat] at hq; cases hq; exact hp)
theorem mrg_self {l : List S32} (h : Inv l) : mrg l = l := by
  have key : ∀ (r out : List S32), Inv (out ++ r) → r.foldl mstep out = out ++ r := by
    intro r
    induction r with
    | nil => intro out _; simp
    | cons e r ih =>
      intro out hi
      have he : e.f2.length ≠ 0 := hi.1 e (by simp)
      have hs : mstep out e = out ++ [e] := by
        rcases List.eq_nil_or_concat out with rfl | ⟨L, p, rfl⟩
        · exact mstep_first he
        · rw [List.concat_eq_append] at hi ⊢
          refine mstep_far he (hi.2 L.length p e ?_ ?_)
          · simp
          · simp
      rw [List.foldl_cons, hs, ih _ (by simpa using hi)]
      simp
  exact key l [] h
theorem small_mrg {l : List S32} (h : small l) : small (mrg l) ∧ tot (mrg l) ≤ tot l ∧ (mrg l).length ≤ l.length := by
  have hs : ∀ m : List S32, (m.map fun x => x.f2.length + 4).sum = tot m + 4 * m.length := by
    intro m
    induction m with
    | nil => rfl
    | cons a r ih => rw [List.map_cons, List.sum_cons, ih, tot_cons, List.length_cons]; omega
  have key := mrg_ind (Q := fun out r => tot out + tot r ≤ tot l ∧ out.length + r.length ≤ l.length) l ⟨by simp [tot], by simp⟩ (fun out e r h => by
    rw [tot_cons, List.length_cons] at h
    rcases mstep_cases out e with ⟨h0, hm⟩ | ⟨h0, ⟨rfl, hm⟩ | ⟨L, p, rfl, ⟨hp, hm⟩ | ⟨hp, hm⟩⟩⟩
    · rw [hm]; omega
    · rw [hm, tot_one]; simp at h ⊢; omega
    · rw [hm, tot_append, tot_one]
      rw [tot_append, tot_one] at h
      simp at h ⊢; omega
    · rw [hm, tot_append, tot_one]
      simp at h ⊢; omega)
  simp only [tot, List.map_nil, List.sum_nil, List.length_nil] at key
  have h1 : tot (mrg l) ≤ tot l := key.1
  have h2 : (mrg l).length ≤ l.length := key.2
  refine ⟨?_, h1, h2⟩
  have := small_tot h
  unfold small
  rw [hs]
  omega
/-- times that never go back stay so -/
theorem mrg_rises {l : List S32} (h : (l.map S32.f1).Pairwise (· ≤ ·)) : ((mrg l).map S32.f1).Pairwise (· ≤ ·) := by
  have := mrg_ind (Q := fun out r => ((out ++ r).map S32.f1).Pairwise (· ≤ ·)) l (by simpa using h) (fun out e r h => by
    rcases mstep_cases out e with ⟨h0, hm⟩ | ⟨h0, ⟨rfl, hm⟩ | ⟨L, p, rfl, ⟨hp, hm⟩ | ⟨hp, hm⟩⟩⟩
    · rw [hm]
      refine h.sublist ?_
      exact (List.Sublist.append_left (List.sublist_cons_self e r) out).map _
    · rw [hm]; exact h
    · rw [hm]
      have hsub : (((L ++ [p]) ++ r).map S32.f1).Pairwise (· ≤ ·) := h.sublist ((List.Sublist.append_left (List.sublist_cons_self e r) (L ++ [p])).map _)
      simpa using hsub
    · rw [hm]; simpa using h)
  simpa using this
end Go.Proofs.Ytdbnmccflbkcoaa.QA
