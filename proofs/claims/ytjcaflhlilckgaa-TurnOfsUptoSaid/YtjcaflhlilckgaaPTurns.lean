import Derived.Lib.Hide
import Derived.Test.YtjcaflhlilckgaaGOf
import Derived.Test.YtjcaflhlilckgaaQAx1
namespace Go.Proofs.Ytjcaflhlilckgaa.QA
open Go.RowKit Go.Proofs.YtjcaflhlilckgaaW.PrintWords Go.Proofs.YtjcaflhlilckgaaW.PrintMore
set_option linter.unusedVariables false
set_option linter.unusedSimpArgs false
def small (l : List S37) : Prop := (l.map fun x => x.f2.length + 4).sum ≤ 1048576
def tot (l : List S37) : Nat := (l.map fun x => x.f2.length).sum
theorem small_tot {l : List S37} (h : small l) : tot l + 4 * l.length ≤ 1048576 := by
  have : ∀ l : List S37, (l.map fun x => x.f2.length + 4).sum = tot l + 4 * l.length := by
    intro l
    induction l with
    | nil => rfl
    | cons a r ih => unfold tot at *; simp only [List.map_cons, List.sum_cons, List.length_cons, ih]; omega
  unfold small at h
  rw [this] at h
  exact h
theorem tot_cons (x : S37) (l : List S37) : tot (x :: l) = x.f2.length + tot l := by simp [tot]
theorem tot_drop_le (l : List S37) (i : Nat) : tot (l.drop i) ≤ tot l := by
  have e : tot l = tot (l.take i) + tot (l.drop i) := by
    unfold tot
    rw [← List.sum_append, ← List.map_append, List.take_append_drop]
  omega
theorem tot_mem {l : List S37} {x : S37} (h : x ∈ l) : x.f2.length ≤ tot l := by
  induction l with
  | nil => cases h
  | cons a r ih =>
    rw [tot_cons]
    rcases List.mem_cons.1 h with rfl | h
    · omega
    · have := ih h; omega
theorem rdT (l : List S37) (i : Nat) (h : i < l.length) : rd_T37 l (i : Int) = l[i] := by
  unfold rd_T37
  rw [Int.toNat_natCast, List.getD_eq_getElem?_getD, List.getElem?_eq_getElem h]
  rfl
theorem wr_nat {i : Nat} (h : i ≤ 4611686018427387904) : wrap64 ((i : Nat) : Int) = ((i : Nat) : Int) := by unfold wrap64; omega
theorem wr_i {i : Nat} (h : i < 4611686018427387904) : wrap64 ((i : Int) + 1) = ((i + 1 : Nat) : Int) := by unfold wrap64; omega
theorem wr_add {i j : Nat} (h : i + j < 4611686018427387904) : wrap64 ((i : Int) + (j : Int)) = ((i + j : Nat) : Int) := by unfold wrap64; omega
/-! ### what is merged -/
def mstep (out : List S37) (e : S37) : List S37 :=
  if e.f2.length = 0 then out else match out.getLast? with
    | none => out ++ [e]
    | some p => if p.f0 = e.f0 then out.dropLast ++ [⟨p.f0, p.f1, p.f2 ++ e.f2⟩] else out ++ [e]
def mrg (l : List S37) : List S37 := l.foldl mstep []
theorem mstep_nil {out : List S37} {e : S37} (h : e.f2.length = 0) : mstep out e = out := if_pos h
theorem mstep_first {e : S37} (h : e.f2.length ≠ 0) : mstep [] e = [e] := by unfold mstep; rw [if_neg h]; rfl
theorem mstep_join {L : List S37} {p e : S37} (h : e.f2.length ≠ 0) (hp : p.f0 = e.f0) : mstep (L ++ [p]) e = L ++ [⟨p.f0, p.f1, p.f2 ++ e.f2⟩] := by
  unfold mstep
  rw [if_neg h, List.getLast?_concat]
  simp only [if_pos hp, List.dropLast_concat]
theorem mstep_far {L : List S37} {p e : S37} (h : e.f2.length ≠ 0) (hp : p.f0 ≠ e.f0) : mstep (L ++ [p]) e = L ++ [p] ++ [e] := by
  unfold mstep
  rw [if_neg h, List.getLast?_concat]
  simp only [if_neg hp]
theorem tot_append (l m : List S37) : tot (l ++ m) = tot l + tot m := by simp [tot]
theorem tot_one (x : S37) : tot [x] = x.f2.length := by simp [tot]
theorem set_last {L : List S37} {p q : S37} : (L ++ [p]).set L.length q = L ++ [q] := by
  rw [List.set_append_right _ _ (Nat.le_refl _), Nat.sub_self]
  rfl
theorem clone_f {l : List Int} (h : l.length ≤ 1048576) (k : Nat) : bytes_Clone.f k l = some l := by
  unfold bytes_Clone.f
  rw [if_pos (by omega)]
theorem merge_l0 (l : List S37) (hlen : l.length ≤ 1048576) (d : Nat) : ∀ (i k : Nat) (out : List S37), i + d = l.length → d < k → out.length + d ≤ 1048576 → tot out + tot (l.drop i) ≤ 1048576 →
    event_Merge.l0 k out l (l.length : Int) (i : Int) = some ((l.drop i).foldl mstep out) := by
  induction d with
  | zero =>
    intro i k out hi hk hl ht
    obtain ⟨k, rfl⟩ : ∃ m, k = m + 1 := ⟨k - 1, by omega⟩
    rw [event_Merge.l0, if_neg (by omega), List.drop_of_length_le (by omega)]
    rfl
  | succ d ih =>
    intro i k out hi hk hl ht
    obtain ⟨k, rfl⟩ : ∃ m, k = m + 1 := ⟨k - 1, by omega⟩
    have hlt : i < l.length := by omega
    rw [List.drop_eq_getElem_cons hlt, tot_cons] at ht
    rw [event_Merge.l0, if_pos (by omega), if_pos (by omega), if_pos (by omega), rdT l i hlt, List.drop_eq_getElem_cons hlt, List.foldl_cons]
    by_cases h0 : l[i].f2.length = 0
    · rw [if_pos (by omega), wr_i (by omega), mstep_nil h0]
      exact ih (i + 1) k out (by omega) (by omega) (by omega) (by omega)
    rw [if_neg (by omega)]
    rcases List.eq_nil_or_concat out with rfl | ⟨L, p, rfl⟩
    · rw [if_neg (by simp), clone_f (by omega)]
      simp only [Option.bind_some]
      rw [if_pos (by simp), wr_i (by omega), mstep_first h0]
      exact ih (i + 1) k [l[i]] (by omega) (by omega) (by simp at hl ⊢; omega) (by rw [tot_one]; omega)
    · rw [List.concat_eq_append] at *
      simp only [List.length_append, List.length_cons, List.length_nil] at hl
      rw [tot_append, tot_one] at ht
      have hw := Lib.hid (show wrap64 (((L ++ [p]).length : Int) - 1) = (L.length : Int) by rw [List.length_append, List.length_singleton]; unfold wrap64; omega)
      rw [if_pos (by rw [List.length_append, List.length_singleton]; omega), hw.out, if_pos (by omega), if_pos (by rw [List.length_append, List.length_singleton]; omega), rdT (L ++ [p]) L.length (by simp)]
      rw [show (L ++ [p])[L.length]'(by simp) = p from List.getElem_concat_length rfl _]
      by_cases hp : p.f0 = l[i].f0
      · rw [if_pos hp, if_pos (by omega), Int.toNat_natCast, set_last, wr_i (by omega), mstep_join h0 hp]
        exact ih (i + 1) k _ (by omega) (by omega) (by simp; omega) (by rw [tot_append, tot_one, List.length_append]; omega)
      · rw [if_neg hp, clone_f (by omega)]
        simp only [Option.bind_some]
        rw [if_pos (by simp; omega), wr_i (by omega), mstep_far h0 hp]
        exact ih (i + 1) k (L ++ [p] ++ [l[i]]) (by omega) (by omega) (by simp; omega) (by rw [tot_append, tot_append, tot_one, tot_one]; omega)
theorem merge_f (l : List S37) (h : small l) {k : Nat} (hk : l.length < k) : event_Merge.f k l = some (mrg l) := by
  have ht := small_tot h
  exact merge_l0 l (by omega) l.length 0 k [] (by omega) (by omega) (by simp; omega) (by simp [tot] at ht ⊢; omega)
/-- what holds of each step holds of what is merged -/
theorem mrg_ind {Q : List S37 → List S37 → Prop} (l : List S37) (h0 : Q [] l) (hs : ∀ out e r, Q out (e :: r) → Q (mstep out e) r) : Q (mrg l) [] := by
  have key : ∀ (r out : List S37), Q out r → Q (r.foldl mstep out) [] := by
    intro r
    induction r with
    | nil => intro out h; exact h
    | cons e r ih => intro out h; exact ih _ (hs out e r h)
  exact key l [] h0
theorem mstep_cases (out : List S37) (e : S37) : (e.f2.length = 0 ∧ mstep out e = out) ∨ (e.f2.length ≠ 0 ∧ ((out = [] ∧ mstep out e = [e]) ∨ ∃ L p, out = L ++ [p] ∧ ((p.f0 = e.f0 ∧ mstep out e = L ++ [⟨p.f0, p.f1, p.f2 ++ e.f2⟩]) ∨ (p.f0 ≠ e.f0 ∧ mstep out e = L ++ [p] ++ [e])))) := by
  by_cases h : e.f2.length = 0
  · exact .inl ⟨h, mstep_nil h⟩
  · refine .inr ⟨h, ?_⟩
    rcases List.eq_nil_or_concat out with rfl | ⟨L, p, rfl⟩
    · exact .inl ⟨rfl, mstep_first h⟩
    · rw [List.concat_eq_append]
      refine .inr ⟨L, p, rfl, ?_⟩
      by_cases hp : p.f0 = e.f0
      · exact .inl ⟨hp, mstep_join h hp⟩
      · exact .inr ⟨hp, mstep_far h hp⟩
/-- no empty event, no two neighbours of one direction -/
def MInv (l : List S37) : Prop := (∀ x ∈ l, x.f2.length ≠ 0) ∧ ∀ (j : Nat) x y, l[j]? = some x → l[j + 1]? = some y → x.f0 ≠ y.f0
theorem MInv.snoc {L : List S37} {p : S37} (h : MInv L) (hp : p.f2.length ≠ 0) (hl : ∀ q, L.getLast? = some q → q.f0 ≠ p.f0) : MInv (L ++ [p]) := by
  refine ⟨fun x hx => ?_, fun j x y hx hy => ?_⟩
  · rcases List.mem_append.1 hx with hx | hx
    · exact h.1 x hx
    · rw [List.mem_singleton.1 hx]; exact hp
  · have hj : j + 1 < (L ++ [p]).length := (List.getElem?_eq_some_iff.1 hy).1
    simp only [List.length_append, List.length_cons, List.length_nil] at hj
    rw [List.getElem?_append_left (by omega)] at hx
    rcases Nat.lt_or_ge (j + 1) L.length with h1 | h1
    · rw [List.getElem?_append_left h1] at hy
      exact h.2 j x y hx hy
    · have hj2 : j = L.length - 1 := by omega
      rw [List.getElem?_append_right h1, show j + 1 - L.length = 0 by omega] at hy
      obtain rfl : p = y := by simpa using hy
      exact hl x (by rw [List.getLast?_eq_getElem?, ← hj2]; exact hx)
theorem MInv.front {L : List S37} {p : S37} (h : MInv (L ++ [p])) : MInv L ∧ p.f2.length ≠ 0 ∧ ∀ q, L.getLast? = some q → q.f0 ≠ p.f0 := by
  refine ⟨⟨fun x hx => h.1 x (List.mem_append_left _ hx), fun j x y hx hy => ?_⟩, h.1 p (by simp), fun q hq => ?_⟩
  · have h1 := (List.getElem?_eq_some_iff.1 hx).1
    have h2 := (List.getElem?_eq_some_iff.1 hy).1
    exact h.2 j x y (by rw [List.getElem?_append_left h1]; exact hx) (by rw [List.getElem?_append_left h2]; exact hy)
  · rw [List.getLast?_eq_getElem?] at hq
    have h1 := (List.getElem?_eq_some_iff.1 hq).1
    refine h.2 (L.length - 1) q p (by rw [List.getElem?_append_left h1]; exact hq) ?_
    rw [show L.length - 1 + 1 = L.length by omega, List.getElem?_concat_length]
theorem inv_mrg (l : List S37) : MInv (mrg l) := by
  refine mrg_ind (Q := fun out _ => MInv out) l ⟨by simp, by simp⟩ (fun out e r h => ?_)
  rcases mstep_cases out e with ⟨h0, hm⟩ | ⟨h0, ⟨rfl, hm⟩ | ⟨L, p, rfl, ⟨hp, hm⟩ | ⟨hp, hm⟩⟩⟩
  · rw [hm]; exact h
  · rw [hm]; exact MInv.snoc (L := []) h h0 (by simp)
  · rw [hm]
    obtain ⟨h1, h2, h3⟩ := h.front
    exact h1.snoc (by rw [List.length_append]; omega) h3
  · rw [hm]
    exact h.snoc h0 (fun q hq => by rw [List.getLast?_concat] at hq; cases hq; exact hp)
theorem mrg_self {l : List S37} (h : MInv l) : mrg l = l := by
  have key : ∀ (r out : List S37), MInv (out ++ r) → r.foldl mstep out = out ++ r := by
    intro r
    induction r with
    | nil => intro out _; simp
    | cons e r ih =>
      intro out hi
      have he : e.f2.length ≠ 0 := hi.1 e (by simp)
      have hs : mstep out e = out ++ [e] := by
        rcases List.eq_nil_or_concat out with rfl | ⟨L, p, rfl⟩
        · exact mstep_first he
        · rw [List.concat_eq_append] at hi ⊢
          refine mstep_far he (hi.2 L.length p e ?_ ?_)
          · simp
          · simp
      rw [List.foldl_cons, hs, ih _ (by simpa using hi)]
      simp
  exact key l [] h
theorem small_mrg {l : List S37} (h : small l) : small (mrg l) ∧ tot (mrg l) ≤ tot l ∧ (mrg l).length ≤ l.length := by
  have hs : ∀ m : List S37, (m.map fun x => x.f2.length + 4).sum = tot m + 4 * m.length := by
    intro m
    induction m with
    | nil => rfl
    | cons a r ih => rw [List.map_cons, List.sum_cons, ih, tot_cons, List.length_cons]; omega
  have key := mrg_ind (Q := fun out r => tot out + tot r ≤ tot l ∧ out.length + r.length ≤ l.length) l ⟨by simp [tot], by simp⟩ (fun out e r h => by
    rw [tot_cons, List.length_cons] at h
    rcases mstep_cases out e with ⟨h0, hm⟩ | ⟨h0, ⟨rfl, hm⟩ | ⟨L, p, rfl, ⟨hp, hm⟩ | ⟨hp, hm⟩⟩⟩
    · rw [hm]; omega
    · rw [hm, tot_one]; simp at h ⊢; omega
    · rw [hm, tot_append, tot_one]
      rw [tot_append, tot_one] at h
      simp at h ⊢; omega
    · rw [hm, tot_append, tot_one]
      simp at h ⊢; omega)
  simp only [tot, List.map_nil, List.sum_nil, List.length_nil] at key
  have h1 : tot (mrg l) ≤ tot l := key.1
  have h2 : (mrg l).length ≤ l.length := key.2
  refine ⟨?_, h1, h2⟩
  have := small_tot h
  unfold small
  rw [hs]
  omega
/-! ### the turns, event by event -/
def dirs (l : List S37) : List S37 := l.filter fun x => x.f0 == 0 || x.f0 == 1
def joined (s : List S33 × S33) (e : S37) : List S33 × S33 := (s.1, if e.f0 = 1 then ⟨s.2.f0, s.2.f1 ++ e.f2⟩ else ⟨s.2.f0 ++ e.f2, s.2.f1⟩)
def dst (s : (List S33 × S33) × Option Int) (e : S37) : (List S33 × S33) × Option Int :=
  if e.f2.length = 0 then s else if s.2 = some e.f0 then (joined s.1 e, s.2) else (tstep s.1 e, some e.f0)
def st0 : (List S33 × S33) × Option Int := (([], ⟨[], []⟩), none)
def fin (s : List S33 × S33) : List S33 := if full s.2 then s.1 ++ [s.2] else s.1
theorem turns_fin (l : List S37) : turns l = fin (tfold l) := rfl
theorem dst_mstep (out : List S37) (e : S37) : (tfold (mstep out e), (mstep out e).getLast?.map (·.f0)) = dst (tfold out, out.getLast?.map (·.f0)) e := by
  unfold dst
  rcases mstep_cases out e with ⟨h0, hm⟩ | ⟨h0, ⟨rfl, hm⟩ | ⟨L, p, rfl, ⟨hp, hm⟩ | ⟨hp, hm⟩⟩⟩
  · rw [hm, if_pos h0]
  · rw [hm, if_neg h0, if_neg (by simp)]
    simp [tfold]
  · rw [hm, if_neg h0, if_pos (by simp [hp]), tfold_snoc, tfold_snoc]
    have e1 : (L ++ [(⟨p.f0, p.f1, p.f2 ++ e.f2⟩ : S37)]).getLast?.map (·.f0) = (L ++ [p]).getLast?.map (·.f0) := by simp
    rw [e1]
    congr 1
    unfold tstep joined
    by_cases h1 : p.f0 = 1
    · simp only [if_pos h1, if_pos (show e.f0 = 1 by omega)]
    · simp only [if_neg h1, if_neg (show ¬ e.f0 = 1 by omega)]
  · rw [hm, if_neg h0, if_neg (by simp [hp]), tfold_snoc]
    simp
theorem mrg_dst (l : List S37) : (tfold (mrg l), (mrg l).getLast?.map (·.f0)) = l.foldl dst st0 := by
  have key : ∀ (l out : List S37), (tfold (l.foldl mstep out), (l.foldl mstep out).getLast?.map (·.f0)) = l.foldl dst (tfold out, out.getLast?.map (·.f0)) := by
    intro l
    induction l with
    | nil => intro out; rfl
    | cons e r ih =>
      intro out
      rw [List.foldl_cons, List.foldl_cons, ih, dst_mstep]
  exact key l []
theorem turns_mrg (l : List S37) : turns (mrg l) = fin (l.foldl dst st0).1 := by rw [turns_fin, ← mrg_dst]
theorem dst_split (s : (List S33 × S33) × Option Int) (d t t' t2 : Int) (a b : List Int) : dst (dst s ⟨d, t, a⟩) ⟨d, t', b⟩ = dst s ⟨d, t2, a ++ b⟩ := by
  by_cases ha : a.length = 0
  · obtain rfl := List.eq_nil_of_length_eq_zero ha
    have : dst s ⟨d, t, []⟩ = s := if_pos rfl
    rw [this]
    rfl
  · by_cases hb : b.length = 0
    · obtain rfl := List.eq_nil_of_length_eq_zero hb
      have : dst (dst s ⟨d, t, a⟩) ⟨d, t', []⟩ = dst s ⟨d, t, a⟩ := if_pos rfl
      rw [this, List.append_nil]
      rfl
    · have hab : (a ++ b).length ≠ 0 := by rw [List.length_append]; omega
      unfold dst
      simp only [if_neg ha, if_neg hb, if_neg hab]
      by_cases hs : s.2 = some d
      · simp only [if_pos hs]
        unfold joined
        by_cases h1 : d = 1
        · simp only [if_pos h1, List.append_assoc]
        · simp only [if_neg h1, List.append_assoc]
      · simp only [if_neg hs, if_true]
        unfold joined tstep
        by_cases h1 : d = 1
        · simp only [if_pos h1]
        · simp only [if_neg h1]
theorem dirs_append (l m : List S37) : dirs (l ++ m) = dirs l ++ dirs m := by simp [dirs]
theorem cut_dst (s : (List S33 × S33) × Option Int) (e : S37) (c : Nat) : (dirs [⟨e.f0, 0, e.f2.take c⟩, ⟨e.f0, 9, []⟩, ⟨e.f0, 0, e.f2.drop c⟩]).foldl dst s = (dirs [e]).foldl dst s := by
  unfold dirs
  by_cases h : (e.f0 == 0 || e.f0 == 1) = true
  · simp only [List.filter, h, List.foldl_cons, List.foldl_nil]
    rw [dst_split s e.f0 0 9 0 (e.f2.take c) [], dst_split s e.f0 0 0 e.f1 (e.f2.take c ++ []) (e.f2.drop c), List.append_nil, List.take_append_drop]
  · simp only [List.filter, h, List.foldl_nil]
/-! ### right, Of, Same -/
/-- few events, few bytes -/
def few (l : List S37) : Prop := tot l ≤ 1048576 ∧ l.length ≤ 262144
theorem few_of {l : List S37} (h : small l) : few l := by have := small_tot h; exact ⟨by omega, by omega⟩
theorem few_dirs {l : List S37} (h : few l) : few (dirs l) := by
  have : tot (dirs l) ≤ tot l := by
    unfold dirs
    clear h
    induction l with
    | nil => exact Nat.le_refl _
    | cons a r ih =>
      rw [List.filter_cons, tot_cons]
      split
      · rw [tot_cons]; omega
      · omega
  exact ⟨Nat.le_trans this h.1, Nat.le_trans (List.length_filter_le _ _) h.2⟩
theorem few_mrg {l : List S37} (h : few l) : few (mrg l) := by
  have key := mrg_ind (Q := fun out r => tot out + tot r ≤ tot l ∧ out.length + r.length ≤ l.length) l ⟨by simp [tot], by simp⟩ (fun out e r h => by
    rw [tot_cons, List.length_cons] at h
    rcases mstep_cases out e with ⟨h0, hm⟩ | ⟨h0, ⟨rfl, hm⟩ | ⟨L, p, rfl, ⟨hp, hm⟩ | ⟨hp, hm⟩⟩⟩
    · rw [hm]; omega
    · rw [hm, tot_one]; simp at h ⊢; omega
    · rw [hm, tot_append, tot_one]
      rw [tot_append, tot_one] at h
      simp at h ⊢; omega
    · rw [hm, tot_append, tot_one]
      simp at h ⊢; omega)
  simp only [tot, List.map_nil, List.sum_nil, List.length_nil] at key
  have h1 : tot (mrg l) ≤ tot l := key.1
  have h2 : (mrg l).length ≤ l.length := key.2
  exact ⟨Nat.le_trans h1 h.1, Nat.le_trans h2 h.2⟩
theorem merge_few (l : List S37) (h : few l) {k : Nat} (hk : l.length < k) : event_Merge.f k l = some (mrg l) := by
  have h1 := h.1
  have h2 := h.2
  exact merge_l0 l (by omega) l.length 0 k [] (by omega) (by omega) (by simp; omega) (by simp [tot] at h1 ⊢; omega)
theorem right_l0 (l : List S37) (hs : few l) (d : Nat) : ∀ (i k : Nat), i + d = l.length → d + l.length + 2 ≤ k → turn_right.l0 k (dirs (l.take i)) l (l.length : Int) (i : Int) = some (mrg (dirs l)) := by
  have hl := hs.2
  induction d with
  | zero =>
    intro i k hi hk
    obtain ⟨k, rfl⟩ : ∃ m, k = m + 1 := ⟨k - 1, by omega⟩
    have hle : (dirs l).length ≤ l.length := List.length_filter_le _ _
    have hsd := few_dirs hs
    rw [turn_right.l0, if_neg (by omega), List.take_of_length_le (by omega), merge_few _ hsd (by omega)]
    rfl
  | succ d ih =>
    intro i k hi hk
    obtain ⟨k, rfl⟩ : ∃ m, k = m + 1 := ⟨k - 1, by omega⟩
    have hlt : i < l.length := by omega
    have hle : (dirs (l.take i)).length ≤ i := Nat.le_trans (List.length_filter_le _ _) (by rw [List.length_take]; omega)
    have := ih (i + 1) k (by omega) (by omega)
    rw [List.take_succ_eq_append_getElem hlt, dirs_append] at this
    rw [turn_right.l0, if_pos (by omega), if_pos (by omega), if_pos (by omega), rdT l i hlt, wr_i (by omega)]
    by_cases h0 : l[i].f0 = 0
    · rw [if_pos h0, if_pos (by omega)]
      rw [show dirs [l[i]] = [l[i]] by simp [dirs, h0]] at this
      exact this
    · rw [if_neg h0]
      by_cases h1 : l[i].f0 = 1
      · rw [if_pos h1, if_pos (by omega)]
        rw [show dirs [l[i]] = [l[i]] by simp [dirs, h1]] at this
        exact this
      · rw [if_neg h1]
        rw [show dirs [l[i]] = [] by simp [dirs, h0, h1], List.append_nil] at this
        exact this
theorem right_f (l : List S37) (hs : few l) {k : Nat} (hk : 2 * l.length + 2 ≤ k) : turn_right.f k l = some (mrg (dirs l)) := right_l0 l hs l.length 0 k (by omega) (by omega)
/-- the turns of events -/
def trn (l : List S37) : List S33 := fin ((dirs l).foldl dst st0).1
theorem of_f (l : List S37) (hs : few l) {k : Nat} (hk : 2 * l.length + 2 ≤ k) : turn_Of.f k l = some (trn l) := by
  have hl := hs.2
  have h1 := few_mrg (few_dirs hs)
  have h2 := h1.1
  have h3 := h1.2
  unfold turn_Of.f
  rw [right_f l hs hk, Option.bind_some, if_pos ⟨by omega, by omega, fun e he => by have := tot_mem he; omega⟩, turns_mrg]
  rfl
theorem rdT33 (l : List S33) (i : Nat) (h : i < l.length) : rd_T33 l (i : Int) = l[i] := by
  unfold rd_T33
  rw [Int.toNat_natCast, List.getD_eq_getElem?_getD, List.getElem?_eq_getElem h]
  rfl
theorem same_l0 (l : List S33) (hl : l.length ≤ 1048576) (d : Nat) : ∀ (i k : Nat), i + d = l.length → d + 1 ≤ k → cuecardref10_Same.l0 k l l (i : Int) = some true := by
  induction d with
  | zero =>
    intro i k hi hk
    obtain ⟨k, rfl⟩ : ∃ m, k = m + 1 := ⟨k - 1, by omega⟩
    rw [cuecardref10_Same.l0, if_neg (by omega)]
  | succ d ih =>
    intro i k hi hk
    obtain ⟨k, rfl⟩ : ∃ m, k = m + 1 := ⟨k - 1, by omega⟩
    have hlt : i < l.length := by omega
    rw [cuecardref10_Same.l0, if_pos (by omega), if_pos (by omega), if_pos (by omega), rdT33 l i hlt, if_pos rfl, if_pos rfl, wr_i (by omega)]
    exact ih (i + 1) k (by omega) (by omega)
theorem same_f (l : List S33) (hl : l.length ≤ 1048576) {k : Nat} (hk : l.length + 1 ≤ k) : cuecardref10_Same.f k l l = some true := by
  unfold cuecardref10_Same.f
  rw [if_pos rfl]
  exact same_l0 l hl l.length 0 k (by omega) hk
theorem trn_len (l : List S37) : (trn l).length ≤ l.length + 1 := by
  have key : ∀ (l : List S37) (s : (List S33 × S33) × Option Int), (l.foldl dst s).1.1.length ≤ s.1.1.length + l.length := by
    intro l
    induction l with
    | nil => intro s; simp
    | cons e r ih =>
      intro s
      have := ih (dst s e)
      have h2 : (dst s e).1.1.length ≤ s.1.1.length + 1 := by
        unfold dst
        split
        · omega
        · split
          · show s.1.1.length ≤ _; omega
          · unfold tstep
            split
            · show s.1.1.length ≤ _; omega
            · show (if full s.1.2 then _ else _ : List S33).length ≤ _
              split
              · rw [List.length_append]; simp
              · omega
      rw [List.foldl_cons, List.length_cons]
      omega
  have h1 := key (dirs l) st0
  have h2 : (dirs l).length ≤ l.length := List.length_filter_le _ _
  have h3 : st0.1.1.length = 0 := rfl
  unfold trn fin
  split
  · rw [List.length_append, List.length_singleton]; omega
  · omega
end Go.Proofs.Ytjcaflhlilckgaa.QA
