import Derived.Lib.Hide
import Derived.Test.YtjcaflhlilckgaaPTurns
import Derived.Test.YtjcaflhlilckgaaGEvs
import Derived.Test.YtjcaflhlilckgaaQAx6
import Derived.Test.YtjcaflhlilckgaaQAx7
import Derived.Test.YtjcaflhlilckgaaQAx8
import Derived.Test.YtjcaflhlilckgaaQAx9
namespace Go.Proofs.Ytjcaflhlilckgaa.QA
open Go.RowKit Go.Proofs.YtjcaflhlilckgaaW.PrintWords Go.Proofs.YtjcaflhlilckgaaW.PrintMore
set_option linter.unusedVariables false
set_option linter.unusedSimpArgs false
/-! ### the shape of turns -/
theorem ne_len {α : Type} {l : List α} (h : l ≠ []) : 0 < l.length := by cases l with | nil => exact absurd rfl h | cons a r => simp
def DInv (s : (List S33 × S33) × Option Int) : Prop :=
  (∀ e ∈ s.1.1, e.f1 ≠ []) ∧ (∀ u ∈ (s.1.1 ++ [s.1.2]).tail, u.f0 ≠ []) ∧
  ((s.2 = none ∧ s.1.1 = [] ∧ s.1.2 = ⟨[], []⟩) ∨ (s.2 = some 1 ∧ s.1.2.f1 ≠ []) ∨ (s.2 = some 0 ∧ s.1.2.f0 ≠ [] ∧ s.1.2.f1 = []))
theorem tail_snoc_mem {out : List S33} {c c' : S33} (h : ∀ u ∈ (out ++ [c]).tail, u.f0 ≠ []) (hc : c.f0 ≠ [] → c'.f0 ≠ []) : ∀ u ∈ (out ++ [c']).tail, u.f0 ≠ [] := by
  cases out with
  | nil => intro u hu; simp at hu
  | cons a r =>
    intro u hu
    simp only [List.cons_append, List.tail_cons, List.mem_append, List.mem_singleton] at hu h
    rcases hu with hu | rfl
    · exact h u (.inl hu)
    · exact hc (h c (.inr rfl))
theorem dst_inv (s : (List S33 × S33) × Option Int) (e : S37) (he : e.f0 = 0 ∨ e.f0 = 1) (h : DInv s) : DInv (dst s e) := by
  obtain ⟨⟨out, cur⟩, last⟩ := s
  obtain ⟨h1, h2, h3⟩ := h
  simp only at h1 h2 h3
  unfold dst
  by_cases h0 : e.f2.length = 0
  · rw [if_pos h0]; exact ⟨h1, h2, h3⟩
  · have hne : e.f2 ≠ [] := fun e => h0 (by rw [e]; rfl)
    rw [if_neg h0]
    by_cases hl : last = some e.f0
    · rw [if_pos hl]
      unfold joined
      rcases he with he | he
      · rw [he] at hl
        subst hl
        rcases h3 with ⟨h, _⟩ | ⟨h, _⟩ | ⟨_, h4, h5⟩
        · exact absurd h (by simp)
        · exact absurd h (by simp)
        · rw [if_neg (by omega)]
          exact ⟨h1, tail_snoc_mem h2 (fun h => by simp [h]), .inr (.inr ⟨rfl, by simp [h4], h5⟩)⟩
      · rw [he] at hl
        subst hl
        rw [if_pos he]
        exact ⟨h1, tail_snoc_mem h2 (fun h => h), .inr (.inl ⟨rfl, by simp [hne]⟩)⟩
    · rw [if_neg hl]
      unfold tstep
      rcases he with he | he
      · rw [if_neg (by omega)]
        rcases h3 with ⟨rfl, rfl, rfl⟩ | ⟨rfl, h4⟩ | ⟨rfl, _⟩
        · refine ⟨by simp [full], by simp [full], .inr (.inr ⟨by rw [he], hne, rfl⟩)⟩
        · have hf : full cur := by unfold full; have := ne_len h4; omega
          simp only [if_pos hf]
          refine ⟨fun x hx => ?_, fun u hu => ?_, .inr (.inr ⟨by rw [he], hne, rfl⟩)⟩
          · rcases List.mem_append.1 hx with hx | hx
            · exact h1 x hx
            · rw [List.mem_singleton.1 hx]; exact h4
          · rw [List.tail_append_of_ne_nil (by simp)] at hu
            rcases List.mem_append.1 hu with hu | hu
            · exact h2 u hu
            · rw [List.mem_singleton.1 hu]; exact hne
        · exact absurd (by rw [he]) hl
      · rw [if_pos he]
        exact ⟨h1, tail_snoc_mem h2 (fun h => h), .inr (.inl ⟨by rw [he], hne⟩)⟩
theorem dirs_dir {l : List S37} : ∀ e ∈ dirs l, e.f0 = 0 ∨ e.f0 = 1 := fun e he => by
  have := (List.mem_filter.1 he).2
  simpa using this
theorem fold_inv (l : List S37) : DInv ((dirs l).foldl dst st0) := by
  have key : ∀ (m : List S37) (s : (List S33 × S33) × Option Int), (∀ e ∈ m, e.f0 = 0 ∨ e.f0 = 1) → DInv s → DInv (m.foldl dst s) := by
    intro m
    induction m with
    | nil => intro s _ h; exact h
    | cons e r ih => intro s hm h; exact ih _ (fun x hx => hm x (List.mem_cons_of_mem _ hx)) (dst_inv s e (hm e (List.mem_cons_self ..)) h)
  exact key _ _ dirs_dir ⟨by simp [st0], by simp [st0], .inl ⟨rfl, rfl, rfl⟩⟩
/-- each turn but the last has an In, each but the first an Out -/
def Ch : List S33 → Prop
  | [] => True
  | t :: r => (r ≠ [] → t.f1 ≠ []) ∧ (∀ u ∈ r, u.f0 ≠ []) ∧ Ch r
theorem ch_snoc (out : List S33) (c : S33) : (∀ e ∈ out, e.f1 ≠ []) → (∀ u ∈ (out ++ [c]).tail, u.f0 ≠ []) → Ch (out ++ [c]) := by
  induction out with
  | nil => intro _ _; exact ⟨fun h => absurd rfl h, by simp, trivial⟩
  | cons a r ih =>
    intro h1 h2
    refine ⟨fun _ => h1 a (List.mem_cons_self ..), h2, ih (fun e he => h1 e (List.mem_cons_of_mem _ he)) fun u hu => h2 u (List.mem_of_mem_tail hu)⟩
theorem trn_ch (l : List S37) : Ch (trn l) ∧ ∀ t ∈ trn l, full t := by
  have h := fold_inv l
  unfold trn fin
  generalize hs : (dirs l).foldl dst st0 = s at h ⊢
  obtain ⟨⟨out, cur⟩, last⟩ := s
  obtain ⟨h1, h2, h3⟩ := h
  simp only at h1 h2 h3 ⊢
  split
  · next hf =>
    refine ⟨ch_snoc out cur h1 h2, fun t ht => ?_⟩
    rcases List.mem_append.1 ht with ht | ht
    · unfold full; have := ne_len (h1 t ht); omega
    · rw [List.mem_singleton.1 ht]; exact hf
  · next hf =>
    rcases h3 with ⟨_, rfl, _⟩ | ⟨_, h4⟩ | ⟨_, h4, _⟩
    · exact ⟨trivial, by simp⟩
    · exact absurd (by unfold full; have := ne_len h4; omega) hf
    · exact absurd (by unfold full; have := ne_len h4; omega) hf
/-! ### the bytes of turns -/
def to1 (l : List S33) : Nat := (l.map fun x => x.f0.length).sum
def ti1 (l : List S33) : Nat := (l.map fun x => x.f1.length).sum
theorem to1_cons (x : S33) (l : List S33) : to1 (x :: l) = x.f0.length + to1 l := by simp [to1]
theorem ti1_cons (x : S33) (l : List S33) : ti1 (x :: l) = x.f1.length + ti1 l := by simp [ti1]
theorem to1_append (l m : List S33) : to1 (l ++ m) = to1 l + to1 m := by simp [to1]
theorem ti1_append (l m : List S33) : ti1 (l ++ m) = ti1 l + ti1 m := by simp [ti1]
theorem to1_take (l : List S33) (n : Nat) : to1 (l.take n) ≤ to1 l := by
  have := to1_append (l.take n) (l.drop n)
  rw [List.take_append_drop] at this
  omega
theorem ti1_take (l : List S33) (n : Nat) : ti1 (l.take n) ≤ ti1 l := by
  have := ti1_append (l.take n) (l.drop n)
  rw [List.take_append_drop] at this
  omega
theorem dst_size (s : (List S33 × S33) × Option Int) (e : S37) : to1 (dst s e).1.1 + ti1 (dst s e).1.1 + (dst s e).1.2.f0.length + (dst s e).1.2.f1.length ≤ to1 s.1.1 + ti1 s.1.1 + s.1.2.f0.length + s.1.2.f1.length + e.f2.length := by
  obtain ⟨⟨out, cur⟩, last⟩ := s
  unfold dst
  split
  · simp only; omega
  · split
    · unfold joined
      simp only
      split <;> simp only [List.length_append] <;> omega
    · unfold tstep
      simp only
      split
      · simp only; omega
      · split
        · simp only [to1_append, ti1_append, to1_cons, ti1_cons, List.length_nil]
          simp only [to1, ti1, List.map_nil, List.sum_nil]
          omega
        · simp only [List.length_nil]; omega
theorem tot_dirs (l : List S37) : tot (dirs l) ≤ tot l := by
  unfold dirs
  induction l with
  | nil => exact Nat.le_refl _
  | cons a r ih =>
    rw [List.filter_cons, tot_cons]
    split
    · rw [tot_cons]; omega
    · omega
theorem trn_size (l : List S37) : to1 (trn l) + ti1 (trn l) ≤ tot l := by
  have key : ∀ (m : List S37) (s : (List S33 × S33) × Option Int), to1 (m.foldl dst s).1.1 + ti1 (m.foldl dst s).1.1 + (m.foldl dst s).1.2.f0.length + (m.foldl dst s).1.2.f1.length ≤ to1 s.1.1 + ti1 s.1.1 + s.1.2.f0.length + s.1.2.f1.length + tot m := by
    intro m
    induction m with
    | nil => intro s; simp [tot]
    | cons e r ih =>
      intro s
      have h1 := ih (dst s e)
      have h2 := dst_size s e
      rw [List.foldl_cons, tot_cons]
      omega
  have h1 := key (dirs l) st0
  have h2 := tot_dirs l
  have h3 : to1 st0.1.1 + ti1 st0.1.1 + st0.1.2.f0.length + st0.1.2.f1.length = 0 := rfl
  unfold trn fin
  split
  · rw [to1_append, ti1_append, to1_cons, ti1_cons]
    simp only [to1, ti1, List.map_nil, List.sum_nil] at h1 h3 ⊢
    omega
  · omega
/-! ### Told, Seen -/
theorem told_l0 (l : List S33) (hl : l.length ≤ 1048576) (d : Nat) : ∀ (i k a : Nat), i + d = l.length → d + 1 ≤ k → a + ti1 (l.drop i) ≤ 1048576 →
    turn_Told.l0 k (a : Int) l (l.length : Int) (i : Int) = some ((a + ti1 (l.drop i) : Nat) : Int) := by
  induction d with
  | zero =>
    intro i k a hi hk ha
    obtain ⟨k, rfl⟩ : ∃ m, k = m + 1 := ⟨k - 1, by omega⟩
    obtain rfl : i = l.length := by omega
    rw [turn_Told.l0, if_neg (by omega), List.drop_length]
    rfl
  | succ d ih =>
    intro i k a hi hk ha
    obtain ⟨k, rfl⟩ : ∃ m, k = m + 1 := ⟨k - 1, by omega⟩
    have hlt : i < l.length := by omega
    rw [List.drop_eq_getElem_cons hlt, ti1_cons] at ha ⊢
    rw [turn_Told.l0, if_pos (by omega), if_pos (by omega), if_pos (by omega), rdT33 l i hlt, wr_i (by omega), wr_add (by omega), ih (i + 1) k (a + l[i].f1.length) (by omega) (by omega) (by omega), Nat.add_assoc]
theorem told_f (a : Int) (l : List S33) (hl : l.length ≤ 1048576) (ht : ti1 l ≤ 1048576) {k : Nat} (hk : l.length + 1 ≤ k) : turn_Told.f k a l = some ((ti1 (l.take (mx 0 (mn a (l.length : Int))).toNat) : Nat) : Int) := by
  have hc : ∃ c : Nat, mx 0 (mn a (l.length : Int)) = (c : Int) ∧ c ≤ l.length := by
    refine ⟨(mx 0 (mn a (l.length : Int))).toNat, ?_, ?_⟩ <;> unfold mx mn <;> split <;> split <;> omega
  obtain ⟨c, hc, hcl⟩ := hc
  unfold turn_Told.f
  rw [hc, if_pos (by omega), if_pos (by omega), Option.bind_some, Int.toNat_natCast]
  have hlc : (l.take c).length ≤ l.length := by rw [List.length_take]; omega
  have := ti1_take l c
  have h := told_l0 (l.take c) (by omega) (l.take c).length 0 k 0 (by omega) (by omega) (by rw [List.drop_zero]; omega)
  rw [List.drop_zero, Nat.zero_add] at h
  exact h
theorem seen_l0 (l : List S33) (hl : l.length ≤ 1048576) (d : Nat) : ∀ (i k a : Nat), i + d = l.length → d + 1 ≤ k → a + to1 (l.drop i) ≤ 1048576 →
    turn_Seen.l0 k (a : Int) l (l.length : Int) (i : Int) = some ((a + to1 (l.drop i) : Nat) : Int) := by
  induction d with
  | zero =>
    intro i k a hi hk ha
    obtain ⟨k, rfl⟩ : ∃ m, k = m + 1 := ⟨k - 1, by omega⟩
    obtain rfl : i = l.length := by omega
    rw [turn_Seen.l0, if_neg (by omega), List.drop_length]
    rfl
  | succ d ih =>
    intro i k a hi hk ha
    obtain ⟨k, rfl⟩ : ∃ m, k = m + 1 := ⟨k - 1, by omega⟩
    have hlt : i < l.length := by omega
    rw [List.drop_eq_getElem_cons hlt, to1_cons] at ha ⊢
    rw [turn_Seen.l0, if_pos (by omega), if_pos (by omega), if_pos (by omega), rdT33 l i hlt, wr_i (by omega), wr_add (by omega), ih (i + 1) k (a + l[i].f0.length) (by omega) (by omega) (by omega), Nat.add_assoc]
/-- how many turns Seen counts -/
def sn (a : Int) (n : Nat) : Int := mx 0 (wrap64 ((mn a (wrap64 ((n : Int) - 1))) + 1))
theorem sn_nat (a : Int) (n : Nat) (ha : -9223372036854775808 ≤ a) (hn : n ≤ 1048576) : ∃ c : Nat, sn a n = (c : Int) ∧ c ≤ n ∧ (c : Int) = mx 0 ((mn a ((n : Int) - 1)) + 1) := by
  refine ⟨(sn a n).toNat, ?_, ?_, ?_⟩ <;> unfold sn mx mn wrap64 <;> (repeat' split) <;> omega
theorem seen_f (a : Int) (l : List S33) (ha : -9223372036854775808 ≤ a) (hl : l.length ≤ 1048576) (ht : to1 l ≤ 1048576) {k : Nat} (hk : l.length + 1 ≤ k) : turn_Seen.f k a l = some ((to1 (l.take (sn a l.length).toNat) : Nat) : Int) := by
  obtain ⟨c, hc, hcl, _⟩ := sn_nat a l.length ha hl
  have e : turn_Seen.f k a l = if 0 ≤ sn a l.length then (if sn a l.length ≤ (l.length : Int) then ((some (l.take (sn a l.length).toNat : List (S33))).bind fun y192 => (turn_Seen.l0 k 0 y192 (y192.length : Int) 0)) else none) else none := rfl
  rw [e, hc, if_pos (by omega), if_pos (by omega), Option.bind_some, Int.toNat_natCast]
  have hlc : (l.take c).length ≤ l.length := by rw [List.length_take]; omega
  have := to1_take l c
  have h := seen_l0 (l.take c) (by omega) (l.take c).length 0 k 0 (by omega) (by omega) (by rw [List.drop_zero]; omega)
  rw [List.drop_zero, Nat.zero_add] at h
  exact h
/-! ### the events of turns -/
theorem ev1_tot (t : S33) : tot (ev1 t) = t.f0.length + t.f1.length := by
  unfold ev1
  by_cases h0 : 0 < t.f0.length
  · by_cases h1 : 0 < t.f1.length
    · rw [if_pos h0, if_pos h1]; simp [tot]
    · rw [if_pos h0, if_neg h1, List.append_nil, tot_one]; show t.f0.length = _; omega
  · by_cases h1 : 0 < t.f1.length
    · rw [if_neg h0, if_pos h1, List.nil_append, tot_one]; show t.f1.length = _; omega
    · rw [if_neg h0, if_neg h1]; show 0 = _; omega
theorem evs_tot (l : List S33) : tot (evs l) = to1 l + ti1 l := by
  induction l with
  | nil => rfl
  | cons t r ih => rw [evs_cons, tot_append, ev1_tot, ih, to1_cons, ti1_cons]; omega
theorem refevs_l0 (l : List S33) (hl : l.length ≤ 1048576) (d : Nat) : ∀ (i k : Nat) (out : List S37), i + d = l.length → d + 1 ≤ k → out.length + 2 * d ≤ 3000000 →
    cuecardref10_Events.l0 k l out (i : Int) = some (out ++ evs (l.drop i)) := by
  induction d with
  | zero =>
    intro i k out hi hk ho
    obtain ⟨k, rfl⟩ : ∃ m, k = m + 1 := ⟨k - 1, by omega⟩
    obtain rfl : i = l.length := by omega
    rw [cuecardref10_Events.l0, if_neg (by omega), List.drop_length]
    simp [evs]
  | succ d ih =>
    intro i k out hi hk ho
    obtain ⟨k, rfl⟩ : ∃ m, k = m + 1 := ⟨k - 1, by omega⟩
    have hlt : i < l.length := by omega
    rw [List.drop_eq_getElem_cons hlt, evs_cons, cuecardref10_Events.l0, if_pos (by omega), if_pos (by omega), rdT33 l i hlt, wr_i (by omega), ← List.append_assoc]
    unfold ev1
    by_cases h0 : 0 < l[i].f0.length
    · rw [if_pos (show (l[i].f0.length : Int) > 0 by omega), if_pos (by omega), Option.bind_some, if_pos h0]
      by_cases h1 : 0 < l[i].f1.length
      · rw [if_pos (show (l[i].f1.length : Int) > 0 by omega), if_pos (by simp; omega), if_pos h1, ih (i + 1) k _ (by omega) (by omega) (by simp; omega), ← List.append_assoc]
      · rw [if_neg (show ¬ (l[i].f1.length : Int) > 0 by omega), if_neg h1, ih (i + 1) k _ (by omega) (by omega) (by simp; omega), List.append_nil]
    · rw [if_neg (show ¬ (l[i].f0.length : Int) > 0 by omega), if_neg h0]
      by_cases h1 : 0 < l[i].f1.length
      · rw [if_pos (show (l[i].f1.length : Int) > 0 by omega), if_pos (by omega), if_pos h1, ih (i + 1) k _ (by omega) (by omega) (by simp; omega)]
        rfl
      · rw [if_neg (show ¬ (l[i].f1.length : Int) > 0 by omega), if_neg h1, ih (i + 1) k _ (by omega) (by omega) (by omega)]
        simp
theorem refevs_f (l : List S33) (hl : l.length ≤ 1048576) {k : Nat} (hk : l.length + 1 ≤ k) : cuecardref10_Events.f k l = some (evs l) :=
  refevs_l0 l hl l.length 0 k [] (by omega) hk (by simp; omega)
/-! ### Due -/
/-- the document's -/
def due' (told : Int) : Nat → Nat → List S37 → Nat
  | _, n, [] => n
  | m, n, e :: r => if e.f0 = 1 then due' told (m + e.f2.length) n r else if e.f0 = 0 then (if (m : Int) ≤ told then due' told m (n + e.f2.length) r else due' told m n r) else due' told m n r
theorem refdue_l0 (told : Int) (l : List S37) (d : Nat) : ∀ (k i n m : Nat), i ≤ l.length → l.length - i = d → d < k → l.length ≤ 1048576 → n + m + tot (l.drop i) ≤ 1048576 →
    cuecardref04_Due.l0 k told l (m : Int) (n : Int) (i : Int) = some ((due' told m n (l.drop i) : Nat) : Int) := by
  induction d with
  | zero =>
    intro k i n m h1 h2 hk hl ht
    obtain ⟨k, rfl⟩ : ∃ m, k = m + 1 := ⟨k - 1, by omega⟩
    obtain rfl : i = l.length := by omega
    rw [List.drop_length]
    simp only [cuecardref04_Due.l0, due']
    rw [if_neg (by omega)]
  | succ d ih =>
    intro k i n m h1 h2 hk hl ht
    obtain ⟨k, rfl⟩ : ∃ m, k = m + 1 := ⟨k - 1, by omega⟩
    have hi : i < l.length := by omega
    rw [List.drop_eq_getElem_cons hi] at ht ⊢
    rw [tot_cons] at ht
    simp only [cuecardref04_Due.l0, due', rdT l i hi]
    rw [if_pos (by omega), if_pos (by omega), wr_i (by omega)]
    by_cases h1' : l[i].f0 = 1
    · rw [if_pos h1', if_pos h1', if_neg (by omega), wr_add (by omega)]
      exact ih k (i + 1) n (m + l[i].f2.length) (by omega) (by omega) (by omega) hl (by omega)
    · rw [if_neg h1', if_neg h1']
      by_cases h0' : l[i].f0 = 0
      · rw [if_pos h0', if_pos h0']
        by_cases hm : (m : Int) ≤ told
        · rw [if_pos hm, if_pos hm, wr_add (by omega)]
          exact ih k (i + 1) (n + l[i].f2.length) m (by omega) (by omega) (by omega) hl (by omega)
        · rw [if_neg hm, if_neg hm]
          exact ih k (i + 1) n m (by omega) (by omega) (by omega) hl (by omega)
      · rw [if_neg h0', if_neg h0']
        exact ih k (i + 1) n m (by omega) (by omega) (by omega) hl (by omega)
theorem refdue_f (told : Int) (l : List S37) (h1 : l.length ≤ 1048576) (h2 : tot l ≤ 1048576) (k : Nat) (hk : l.length < k) : cuecardref04_Due.f k told l = some ((due' told 0 0 l : Nat) : Int) := by
  have := refdue_l0 told l l.length k 0 0 0 (by omega) (by omega) hk (by omega) (by simp; omega)
  rw [List.drop_zero] at this
  exact this
theorem due'_over (told : Int) (l : List S37) : ∀ (m n : Nat), (m : Int) > told → due' told m n l = n := by
  induction l with
  | nil => intro m n _; rfl
  | cons e r ih =>
    intro m n h
    simp only [due']
    split
    · exact ih _ _ (by omega)
    · split
      · rw [if_neg (by omega)]; exact ih _ _ h
      · exact ih _ _ h
theorem due_ev1 (told : Int) (t : S33) (r : List S37) (m n : Nat) : due' told m n (ev1 t ++ r) = due' told (m + t.f1.length) (if (m : Int) ≤ told then n + t.f0.length else n) r := by
  unfold ev1
  by_cases h0 : 0 < t.f0.length
  · rw [if_pos h0]
    by_cases h1 : 0 < t.f1.length
    · rw [if_pos h1]
      by_cases hm : (m : Int) ≤ told
      · simp [due', hm]
      · simp [due', hm]
    · rw [if_neg h1, show t.f1.length = 0 by omega]
      by_cases hm : (m : Int) ≤ told
      · simp [due', hm]
      · simp [due', hm]
  · rw [if_neg h0, show t.f0.length = 0 by omega]
    by_cases h1 : 0 < t.f1.length
    · rw [if_pos h1]
      simp [due']
    · rw [if_neg h1, show t.f1.length = 0 by omega]
      simp
theorem due_at (l : List S33) : ∀ (i m n : Nat) (told : Int), Ch l → i < l.length → told = ((m + ti1 (l.take i) : Nat) : Int) → due' told m n (evs l) = n + to1 (l.take (i + 1)) := by
  induction l with
  | nil => intro i m n told _ hi; simp at hi
  | cons t r ih =>
    intro i m n told hc hi ht
    rw [evs_cons, due_ev1, if_pos (by omega)]
    cases i with
    | zero =>
      rw [List.take_succ_cons, to1_cons]
      simp only [List.take_zero, ti1, List.map_nil, List.sum_nil] at ht
      simp only [List.take_zero, to1, List.map_nil, List.sum_nil]
      cases r with
      | nil => simp [evs, due']
      | cons u r =>
        have := ne_len (hc.1 (by simp))
        rw [due'_over _ _ _ _ (by omega)]
        rfl
    | succ i =>
      rw [List.take_succ_cons, ti1_cons] at ht
      rw [List.take_succ_cons, to1_cons, ih i (m + t.f1.length) (n + t.f0.length) told hc.2.2 (by simpa using hi) (by omega)]
      omega
theorem due_ahead (l : List S33) : ∀ (i m n : Nat) (told : Int), Ch l → 0 < i → i < l.length → told = ((m + ti1 (l.take i) : Nat) : Int) - 1 → due' told m n (evs l) < n + to1 (l.take (i + 1)) ∧ (m : Int) ≤ told := by
  induction l with
  | nil => intro i m n told _ _ hi; simp at hi
  | cons t r ih =>
    intro i m n told hc h0 hi ht
    obtain ⟨i, rfl⟩ : ∃ j, i = j + 1 := ⟨i - 1, by omega⟩
    have hir : i < r.length := by simpa using hi
    have hne : r ≠ [] := fun e => by rw [e] at hir; simp at hir
    have hpos := ne_len (hc.1 hne)
    rw [List.take_succ_cons, ti1_cons] at ht
    refine ⟨?_, by omega⟩
    rw [evs_cons, due_ev1, if_pos (by omega), List.take_succ_cons, to1_cons]
    cases i with
    | zero =>
      simp only [List.take_zero, ti1, List.map_nil, List.sum_nil] at ht
      rw [due'_over _ _ _ _ (by omega)]
      cases r with
      | nil => exact absurd rfl hne
      | cons u r =>
        have := ne_len (hc.2.1 u (List.mem_cons_self ..))
        rw [List.take_succ_cons, to1_cons]
        omega
    | succ i =>
      have := (ih (i + 1) (m + t.f1.length) (n + t.f0.length) told hc.2.2 (by omega) hir (by omega)).1
      omega
end Go.Proofs.Ytjcaflhlilckgaa.QA
