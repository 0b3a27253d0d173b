/- What is proved here: plain lemmas on lists of events: what is due, and the bytes of a direction. -/
import Derived.Test.YtdbnmccflbkcoaaQAx1
import Derived.Test.YtdbnmccflbkcoaaQAx2
import Derived.Test.YtdbnmccflbkcoaaQAx4
import Derived.Test.YtdbnmccflbkcoaaGBytes
namespace Go.Proofs.Ytdbnmccflbkcoaa.QA
open Go.RowKit Go.Proofs.YtdbnmccflbkcoaaW.PrintWords
set_option linter.unusedVariables false
set_option linter.unusedSimpArgs false
/-! ### plain lemmas on lists of events -/
def small (l : List S32) : Prop := (l.map fun x => x.f2.length + 4).sum ≤ 1048576
/-- how many bytes the events have -/
def tot (l : List S32) : Nat := (l.map fun x => x.f2.length).sum
theorem small_tot {l : List S32} (h : small l) : tot l + 4 * l.length ≤ 1048576 := by
  have : ∀ l : List S32, (l.map fun x => x.f2.length + 4).sum = tot l + 4 * l.length := by
    intro l
    induction l with
    | nil => rfl
    | cons a r ih => unfold tot at *; simp only [List.map_cons, List.sum_cons, List.length_cons, ih]; omega
  unfold small at h
  rw [this] at h
  exact h
theorem tot_cons (x : S32) (l : List S32) : tot (x :: l) = x.f2.length + tot l := by simp [tot]
theorem tot_drop_le (l : List S32) (i : Nat) : tot (l.drop i) ≤ tot l := by
  have e : tot l = tot (l.take i) + tot (l.drop i) := by
    unfold tot
    rw [← List.sum_append, ← List.map_append, List.take_append_drop]
  omega
theorem tot_mem {l : List S32} {x : S32} (h : x ∈ l) : x.f2.length ≤ tot l := by
  induction l with
  | nil => cases h
  | cons a r ih =>
    rw [tot_cons]
    rcases List.mem_cons.1 h with rfl | h
    · omega
    · have := ih h; omega
theorem rdT (l : List S32) (i : Nat) (h : i < l.length) : rd_T32 l (i : Int) = l[i] := by
  unfold rd_T32
  rw [Int.toNat_natCast, List.getD_eq_getElem?_getD, List.getElem?_eq_getElem h]
  rfl
theorem wr_nat {i : Nat} (h : i ≤ 4611686018427387904) : wrap64 ((i : Nat) : Int) = ((i : Nat) : Int) := by unfold wrap64; omega
theorem wr_i {i : Nat} (h : i < 4611686018427387904) : wrap64 ((i : Int) + 1) = ((i + 1 : Nat) : Int) := by unfold wrap64; omega
theorem wr_add {i j : Nat} (h : i + j < 4611686018427387904) : wrap64 ((i : Int) + (j : Int)) = ((i + j : Nat) : Int) := by unfold wrap64; omega
/-- what may be said -/
def due (told : Int) : Nat → Nat → List S32 → Nat
  | n, _, [] => n
  | n, m, e :: r => if e.f0 = 1 then due told n (m + e.f2.length) r else if e.f0 = 0 then (if (m : Int) > told then n else due told (n + e.f2.length) m r) else due told n m r
theorem due_l0 (told : Int) (l : List S32) (d : Nat) : ∀ (k i n m : Nat), i ≤ l.length → l.length - i = d → d < k → l.length ≤ 1048576 → n + m + tot (l.drop i) ≤ 1048576 →
    event_Due.l0 k told (n : Int) (m : Int) l (l.length : Int) (i : Int) = some ((due told n m (l.drop i) : Nat) : Int) := by
  induction d with
  | zero =>
    intro k i n m h1 h2 hk hl ht
    obtain ⟨k, rfl⟩ : ∃ m, k = m + 1 := ⟨k - 1, by omega⟩
    obtain rfl : i = l.length := by omega
    rw [List.drop_length]
    simp only [event_Due.l0, due]
    rw [if_neg (by omega)]
  | succ d ih =>
    intro k i n m h1 h2 hk hl ht
    obtain ⟨k, rfl⟩ : ∃ m, k = m + 1 := ⟨k - 1, by omega⟩
    have hi : i < l.length := by omega
    rw [List.drop_eq_getElem_cons hi] at ht ⊢
    rw [tot_cons] at ht
    simp only [event_Due.l0, due, rdT l i hi]
    rw [if_pos (by omega), if_pos (by omega), if_pos (by omega), wr_i (by omega)]
    by_cases h1' : l[i].f0 = 1
    · rw [if_pos h1', if_pos h1', wr_add (by omega)]
      exact ih k (i + 1) n (m + l[i].f2.length) (by omega) (by omega) (by omega) hl (by omega)
    · rw [if_neg h1', if_neg h1']
      by_cases h0' : l[i].f0 = 0
      · rw [if_pos h0', if_pos h0']
        by_cases hm : (m : Int) > told
        · rw [if_pos hm, if_pos hm]
        · rw [if_neg hm, if_neg hm, wr_add (by omega)]
          exact ih k (i + 1) (n + l[i].f2.length) m (by omega) (by omega) (by omega) hl (by omega)
      · rw [if_neg h0', if_neg h0']
        exact ih k (i + 1) n m (by omega) (by omega) (by omega) hl (by omega)
theorem due_f (told : Int) (l : List S32) (h : small l) (k : Nat) (hk : l.length < k) : event_Due.f k told l = some ((due told 0 0 l : Nat) : Int) := by
  have ht := small_tot h
  have := due_l0 told l l.length k 0 0 0 (by omega) (by omega) hk (by omega) (by simp; omega)
  rw [List.drop_zero] at this
  exact this
/-- the document's -/
def due' (told : Int) : Nat → Nat → List S32 → Nat
  | _, n, [] => n
  | m, n, e :: r => if e.f0 = 1 then due' told (m + e.f2.length) n r else if e.f0 = 0 then (if (m : Int) ≤ told then due' told m (n + e.f2.length) r else due' told m n r) else due' told m n r
theorem refdue_l0 (told : Int) (l : List S32) (d : Nat) : ∀ (k i n m : Nat), i ≤ l.length → l.length - i = d → d < k → l.length ≤ 1048576 → n + m + tot (l.drop i) ≤ 1048576 →
    cuecardref04_Due.l0 k told l (m : Int) (n : Int) (i : Int) = some ((due' told m n (l.drop i) : Nat) : Int) := by
  induction d with
  | zero =>
    intro k i n m h1 h2 hk hl ht
    obtain ⟨k, rfl⟩ : ∃ m, k = m + 1 := ⟨k - 1, by omega⟩
    obtain rfl : i = l.length := by omega
    rw [List.drop_length]
    simp only [cuecardref04_Due.l0, due']
    rw [if_neg (by omega)]
  | succ d ih =>
    intro k i n m h1 h2 hk hl ht
    obtain ⟨k, rfl⟩ : ∃ m, k = m + 1 := ⟨k - 1, by omega⟩
    have hi : i < l.length := by omega
    rw [List.drop_eq_getElem_cons hi] at ht ⊢
    rw [tot_cons] at ht
    simp only [cuecardref04_Due.l0, due', rdT l i hi]
    rw [if_pos (by omega), if_pos (by omega), wr_i (by omega)]
    by_cases h1' : l[i].f0 = 1
    · rw [if_pos h1', if_pos h1', if_neg (by omega), wr_add (by omega)]
      exact ih k (i + 1) n (m + l[i].f2.length) (by omega) (by omega) (by omega) hl (by omega)
    · rw [if_neg h1', if_neg h1']
      by_cases h0' : l[i].f0 = 0
      · rw [if_pos h0', if_pos h0']
        by_cases hm : (m : Int) ≤ told
        · rw [if_pos hm, if_pos hm, wr_add (by omega)]
          exact ih k (i + 1) (n + l[i].f2.length) m (by omega) (by omega) (by omega) hl (by omega)
        · rw [if_neg hm, if_neg hm]
          exact ih k (i + 1) n m (by omega) (by omega) (by omega) hl (by omega)
      · rw [if_neg h0', if_neg h0']
        exact ih k (i + 1) n m (by omega) (by omega) (by omega) hl (by omega)
theorem refdue_f (told : Int) (l : List S32) (h : small l) (k : Nat) (hk : l.length < k) : cuecardref04_Due.f k told l = some ((due' told 0 0 l : Nat) : Int) := by
  have ht := small_tot h
  have := refdue_l0 told l l.length k 0 0 0 (by omega) (by omega) hk (by omega) (by simp; omega)
  rw [List.drop_zero] at this
  exact this
theorem due'_over (told : Int) (l : List S32) : ∀ (m n : Nat), (m : Int) > told → due' told m n l = n := by
  induction l with
  | nil => intro m n _; rfl
  | cons e r ih =>
    intro m n h
    simp only [due']
    split
    · exact ih _ _ (by omega)
    · split
      · rw [if_neg (by omega)]; exact ih _ _ h
      · exact ih _ _ h
theorem due_eq (told : Int) (l : List S32) : ∀ (m n : Nat), due told n m l = due' told m n l := by
  induction l with
  | nil => intro m n; rfl
  | cons e r ih =>
    intro m n
    simp only [due, due']
    split
    · exact ih _ _
    · split
      · by_cases h : (m : Int) > told
        · rw [if_pos h, if_neg (by omega), due'_over told r m n h]
        · rw [if_neg h, if_pos (by omega)]; exact ih _ _
      · exact ih _ _
theorem due_ge (told : Int) (l : List S32) : ∀ (n m : Nat), n ≤ due told n m l := by
  induction l with
  | nil => intro n m; exact Nat.le_refl _
  | cons e r ih =>
    intro n m
    simp only [due]
    split
    · exact ih _ _
    · split
      · split
        · exact Nat.le_refl _
        · exact Nat.le_trans (by omega) (ih _ _)
      · exact ih _ _
theorem due_mono {t u : Int} (h : t ≤ u) (l : List S32) : ∀ (n m : Nat), due t n m l ≤ due u n m l := by
  induction l with
  | nil => intro n m; exact Nat.le_refl _
  | cons e r ih =>
    intro n m
    simp only [due]
    split
    · exact ih _ _
    · split
      · by_cases h1 : (m : Int) > t
        · rw [if_pos h1]
          split
          · exact Nat.le_refl _
          · exact Nat.le_trans (by omega) (due_ge u r _ _)
        · rw [if_neg h1, if_neg (by omega)]
          exact ih _ _
      · exact ih _ _
/-- the bytes of a direction -/
def way (dir : Int) (l : List S32) : List Int := (l.filter fun x => x.f0 == dir).flatMap fun x => x.f2
theorem way_cons (dir : Int) (x : S32) (l : List S32) : way dir (x :: l) = (if x.f0 = dir then x.f2 else []) ++ way dir l := by
  unfold way
  by_cases h : x.f0 = dir
  · simp [h]
  · simp [h]
theorem way_le (dir : Int) (l : List S32) : (way dir l).length ≤ tot l := by
  induction l with
  | nil => simp [way]
  | cons x r ih => rw [way_cons, tot_cons, List.length_append]; split <;> simp <;> omega
theorem due_all (told : Int) (l : List S32) : ∀ (n m : Nat), (m : Int) + (way 1 l).length ≤ told → due told n m l = n + (way 0 l).length := by
  induction l with
  | nil => intro n m _; simp [due, way]
  | cons e r ih =>
    intro n m h
    rw [way_cons] at h ⊢
    rw [List.length_append] at h ⊢
    simp only [due]
    by_cases h1 : e.f0 = 1
    · rw [if_pos h1, if_neg (by omega)]
      rw [if_pos h1] at h
      rw [ih _ _ (by push_cast; omega)]
      simp
    · rw [if_neg h1]
      rw [if_neg h1] at h
      simp only [List.length_nil] at h
      by_cases h0 : e.f0 = 0
      · rw [if_pos h0, if_pos h0, if_neg (by omega), ih _ _ (by omega)]
        omega
      · rw [if_neg h0, if_neg h0, ih _ _ (by omega)]
        simp
theorem refbytes_l0 (dir : Int) (l : List S32) (d : Nat) : ∀ (k i : Nat) (out : List Int), i ≤ l.length → l.length - i = d → d < k → l.length ≤ 1048576 → out.length + tot (l.drop i) ≤ 1048576 →
    cuecardref04_Bytes.l0 k dir l out (i : Int) = some (out ++ way dir (l.drop i)) := by
  induction d with
  | zero =>
    intro k i out h1 h2 hk hl ht
    obtain ⟨k, rfl⟩ : ∃ m, k = m + 1 := ⟨k - 1, by omega⟩
    obtain rfl : i = l.length := by omega
    rw [List.drop_length]
    simp only [cuecardref04_Bytes.l0]
    rw [if_neg (by omega)]
    simp [way]
  | succ d ih =>
    intro k i out h1 h2 hk hl ht
    obtain ⟨k, rfl⟩ : ∃ m, k = m + 1 := ⟨k - 1, by omega⟩
    have hi : i < l.length := by omega
    rw [List.drop_eq_getElem_cons hi] at ht ⊢
    rw [tot_cons] at ht
    simp only [cuecardref04_Bytes.l0, rdT l i hi]
    rw [if_pos (by omega), if_pos (by omega), wr_i (by omega), way_cons]
    by_cases h : l[i].f0 = dir
    · rw [if_pos h, if_pos h, if_pos (by omega), ih k (i + 1) _ (by omega) (by omega) (by omega) hl (by rw [List.length_append]; omega)]
      simp
    · rw [if_neg h, if_neg h, ih k (i + 1) _ (by omega) (by omega) (by omega) hl (by omega)]
      simp
theorem refbytes_f (dir : Int) (l : List S32) (h : small l) (k : Nat) (hk : l.length < k) : cuecardref04_Bytes.f k dir l = some (way dir l) := by
  have ht := small_tot h
  have := refbytes_l0 dir l l.length k 0 [] (by omega) (by omega) hk (by omega) (by simp; omega)
  rw [List.drop_zero] at this
  exact this
theorem bytes_f (dir : Int) (l : List S32) (h : small l) (k : Nat) : event_Bytes.f k dir l = some (way dir l) := by
  have ht := small_tot h
  unfold event_Bytes.f
  rw [if_pos ⟨by omega, fun x hx => by have := tot_mem hx; omega⟩]
  rfl
theorem i64_of_wf {x : Int} (hx : (Lit.int .i64 x).wf = true) : -9223372036854775808 ≤ x ∧ x ≤ 9223372036854775807 := by
  simp only [Lit.wf, IntKind.min, IntKind.max, IntKind.signed, IntKind.bits, Bool.and_eq_true] at hx
  simp at hx
  omega
end Go.Proofs.Ytdbnmccflbkcoaa.QA
