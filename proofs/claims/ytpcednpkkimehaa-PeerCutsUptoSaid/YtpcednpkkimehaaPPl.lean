import Derived.Lib.Hide
import Derived.Test.YtpcednpkkimehaaQAx1
import Derived.Test.YtpcednpkkimehaaQAx2
import Derived.Test.YtpcednpkkimehaaQAx13
import Derived.Test.YtpcednpkkimehaaQAx14
import Derived.Test.YtpcednpkkimehaaQAx20
import Derived.Test.YtpcednpkkimehaaQAx31
import Derived.Test.YtpcednpkkimehaaGBytes
import Derived.Test.YtpcednpkkimehaaGClone
namespace Go.Proofs.Ytpcednpkkimehaa.QA
open Go.RowKit Go.Proofs.YtpcednpkkimehaaW.PrintWords
set_option linter.unusedVariables false
set_option linter.unusedSimpArgs false
def small (l : List S40) : Prop := (l.map fun x => x.f2.length + 4).sum ≤ 1048576
def tot (l : List S40) : Nat := (l.map fun x => x.f2.length).sum
theorem small_tot {l : List S40} (h : small l) : tot l + 4 * l.length ≤ 1048576 := by
  have : ∀ l : List S40, (l.map fun x => x.f2.length + 4).sum = tot l + 4 * l.length := by
    intro l
    induction l with
    | nil => rfl
    | cons a r ih => unfold tot at *; simp only [List.map_cons, List.sum_cons, List.length_cons, ih]; omega
  unfold small at h
  rw [this] at h
  exact h
theorem tot_cons (x : S40) (l : List S40) : tot (x :: l) = x.f2.length + tot l := by simp [tot]
theorem tot_drop_le (l : List S40) (i : Nat) : tot (l.drop i) ≤ tot l := by
  have e : tot l = tot (l.take i) + tot (l.drop i) := by
    unfold tot
    rw [← List.sum_append, ← List.map_append, List.take_append_drop]
  omega
theorem tot_mem {l : List S40} {x : S40} (h : x ∈ l) : x.f2.length ≤ tot l := by
  induction l with
  | nil => cases h
  | cons a r ih =>
    rw [tot_cons]
    rcases List.mem_cons.1 h with rfl | h
    · omega
    · have := ih h; omega
theorem rdT (l : List S40) (i : Nat) (h : i < l.length) : rd_T40 l (i : Int) = l[i] := by
  unfold rd_T40
  rw [Int.toNat_natCast, List.getD_eq_getElem?_getD, List.getElem?_eq_getElem h]
  rfl
theorem wr_nat {i : Nat} (h : i ≤ 4611686018427387904) : wrap64 ((i : Nat) : Int) = ((i : Nat) : Int) := by unfold wrap64; omega
theorem wr_i {i : Nat} (h : i < 4611686018427387904) : wrap64 ((i : Int) + 1) = ((i + 1 : Nat) : Int) := by unfold wrap64; omega
theorem wr_add {i j : Nat} (h : i + j < 4611686018427387904) : wrap64 ((i : Int) + (j : Int)) = ((i + j : Nat) : Int) := by unfold wrap64; omega
def due (told : Int) : Nat → Nat → List S40 → Nat
  | n, _, [] => n
  | n, m, e :: r => if e.f0 = 1 then due told n (m + e.f2.length) r else if e.f0 = 0 then (if (m : Int) > told then n else due told (n + e.f2.length) m r) else due told n m r
theorem due_l0 (told : Int) (l : List S40) (d : Nat) : ∀ (k i n m : Nat), i ≤ l.length → l.length - i = d → d < k → l.length ≤ 1048576 → n + m + tot (l.drop i) ≤ 1048576 →
    event_Due.l0 k told (n : Int) (m : Int) l (l.length : Int) (i : Int) = some ((due told n m (l.drop i) : Nat) : Int) := by
  induction d with
  | zero =>
    intro k i n m h1 h2 hk hl ht
    obtain ⟨k, rfl⟩ : ∃ m, k = m + 1 := ⟨k - 1, by omega⟩
    obtain rfl : i = l.length := by omega
    rw [List.drop_length]
    simp only [event_Due.l0, due]
    rw [if_neg (by omega)]
  | succ d ih =>
    intro k i n m h1 h2 hk hl ht
    obtain ⟨k, rfl⟩ : ∃ m, k = m + 1 := ⟨k - 1, by omega⟩
    have hi : i < l.length := by omega
    rw [List.drop_eq_getElem_cons hi] at ht ⊢
    rw [tot_cons] at ht
    simp only [event_Due.l0, due, rdT l i hi]
    rw [if_pos (by omega), if_pos (by omega), if_pos (by omega), wr_i (by omega)]
    by_cases h1' : l[i].f0 = 1
    · rw [if_pos h1', if_pos h1', wr_add (by omega)]
      exact ih k (i + 1) n (m + l[i].f2.length) (by omega) (by omega) (by omega) hl (by omega)
    · rw [if_neg h1', if_neg h1']
      by_cases h0' : l[i].f0 = 0
      · rw [if_pos h0', if_pos h0']
        by_cases hm : (m : Int) > told
        · rw [if_pos hm, if_pos hm]
        · rw [if_neg hm, if_neg hm, wr_add (by omega)]
          exact ih k (i + 1) (n + l[i].f2.length) m (by omega) (by omega) (by omega) hl (by omega)
      · rw [if_neg h0', if_neg h0']
        exact ih k (i + 1) n m (by omega) (by omega) (by omega) hl (by omega)
theorem due_f (told : Int) (l : List S40) (h : small l) (k : Nat) (hk : l.length < k) : event_Due.f k told l = some ((due told 0 0 l : Nat) : Int) := by
  have ht := small_tot h
  have := due_l0 told l l.length k 0 0 0 (by omega) (by omega) hk (by omega) (by simp; omega)
  rw [List.drop_zero] at this
  exact this
def due' (told : Int) : Nat → Nat → List S40 → Nat
  | _, n, [] => n
  | m, n, e :: r => if e.f0 = 1 then due' told (m + e.f2.length) n r else if e.f0 = 0 then (if (m : Int) ≤ told then due' told m (n + e.f2.length) r else due' told m n r) else due' told m n r
theorem refdue_l0 (told : Int) (l : List S40) (d : Nat) : ∀ (k i n m : Nat), i ≤ l.length → l.length - i = d → d < k → l.length ≤ 1048576 → n + m + tot (l.drop i) ≤ 1048576 →
    cuecardref04_Due.l0 k told l (m : Int) (n : Int) (i : Int) = some ((due' told m n (l.drop i) : Nat) : Int) := by
  induction d with
  | zero =>
    intro k i n m h1 h2 hk hl ht
    obtain ⟨k, rfl⟩ : ∃ m, k = m + 1 := ⟨k - 1, by omega⟩
    obtain rfl : i = l.length := by omega
    rw [List.drop_length]
    simp only [cuecardref04_Due.l0, due']
    rw [if_neg (by omega)]
  | succ d ih =>
    intro k i n m h1 h2 hk hl ht
    obtain ⟨k, rfl⟩ : ∃ m, k = m + 1 := ⟨k - 1, by omega⟩
    have hi : i < l.length := by omega
    rw [List.drop_eq_getElem_cons hi] at ht ⊢
    rw [tot_cons] at ht
    simp only [cuecardref04_Due.l0, due', rdT l i hi]
    rw [if_pos (by omega), if_pos (by omega), wr_i (by omega)]
    by_cases h1' : l[i].f0 = 1
    · rw [if_pos h1', if_pos h1', if_neg (by omega), wr_add (by omega)]
      exact ih k (i + 1) n (m + l[i].f2.length) (by omega) (by omega) (by omega) hl (by omega)
    · rw [if_neg h1', if_neg h1']
      by_cases h0' : l[i].f0 = 0
      · rw [if_pos h0', if_pos h0']
        by_cases hm : (m : Int) ≤ told
        · rw [if_pos hm, if_pos hm, wr_add (by omega)]
          exact ih k (i + 1) (n + l[i].f2.length) m (by omega) (by omega) (by omega) hl (by omega)
        · rw [if_neg hm, if_neg hm]
          exact ih k (i + 1) n m (by omega) (by omega) (by omega) hl (by omega)
      · rw [if_neg h0', if_neg h0']
        exact ih k (i + 1) n m (by omega) (by omega) (by omega) hl (by omega)
theorem refdue_f (told : Int) (l : List S40) (h : small l) (k : Nat) (hk : l.length < k) : cuecardref04_Due.f k told l = some ((due' told 0 0 l : Nat) : Int) := by
  have ht := small_tot h
  have := refdue_l0 told l l.length k 0 0 0 (by omega) (by omega) hk (by omega) (by simp; omega)
  rw [List.drop_zero] at this
  exact this
theorem due'_over (told : Int) (l : List S40) : ∀ (m n : Nat), (m : Int) > told → due' told m n l = n := by
  induction l with
  | nil => intro m n _; rfl
  | cons e r ih =>
    intro m n h
    simp only [due']
    split
    · exact ih _ _ (by omega)
    · split
      · rw [if_neg (by omega)]; exact ih _ _ h
      · exact ih _ _ h
theorem due_eq (told : Int) (l : List S40) : ∀ (m n : Nat), due told n m l = due' told m n l := by
  induction l with
  | nil => intro m n; rfl
  | cons e r ih =>
    intro m n
    simp only [due, due']
    split
    · exact ih _ _
    · split
      · by_cases h : (m : Int) > told
        · rw [if_pos h, if_neg (by omega), due'_over told r m n h]
        · rw [if_neg h, if_pos (by omega)]; exact ih _ _
      · exact ih _ _
theorem due_ge (told : Int) (l : List S40) : ∀ (n m : Nat), n ≤ due told n m l := by
  induction l with
  | nil => intro n m; exact Nat.le_refl _
  | cons e r ih =>
    intro n m
    simp only [due]
    split
    · exact ih _ _
    · split
      · split
        · exact Nat.le_refl _
        · exact Nat.le_trans (by omega) (ih _ _)
      · exact ih _ _
theorem due_mono {t u : Int} (h : t ≤ u) (l : List S40) : ∀ (n m : Nat), due t n m l ≤ due u n m l := by
  induction l with
  | nil => intro n m; exact Nat.le_refl _
  | cons e r ih =>
    intro n m
    simp only [due]
    split
    · exact ih _ _
    · split
      · by_cases h1 : (m : Int) > t
        · rw [if_pos h1]
          split
          · exact Nat.le_refl _
          · exact Nat.le_trans (by omega) (due_ge u r _ _)
        · rw [if_neg h1, if_neg (by omega)]
          exact ih _ _
      · exact ih _ _
def way (dir : Int) (l : List S40) : List Int := (l.filter fun x => x.f0 == dir).flatMap fun x => x.f2
theorem way_cons (dir : Int) (x : S40) (l : List S40) : way dir (x :: l) = (if x.f0 = dir then x.f2 else []) ++ way dir l := by
  unfold way
  by_cases h : x.f0 = dir
  · simp [h]
  · simp [h]
theorem way_le (dir : Int) (l : List S40) : (way dir l).length ≤ tot l := by
  induction l with
  | nil => simp [way]
  | cons x r ih => rw [way_cons, tot_cons, List.length_append]; split <;> simp <;> omega
theorem due_all (told : Int) (l : List S40) : ∀ (n m : Nat), (m : Int) + (way 1 l).length ≤ told → due told n m l = n + (way 0 l).length := by
  induction l with
  | nil => intro n m _; simp [due, way]
  | cons e r ih =>
    intro n m h
    rw [way_cons] at h ⊢
    rw [List.length_append] at h ⊢
    simp only [due]
    by_cases h1 : e.f0 = 1
    · rw [if_pos h1, if_neg (by omega)]
      rw [if_pos h1] at h
      rw [ih _ _ (by push_cast; omega)]
      simp
    · rw [if_neg h1]
      rw [if_neg h1] at h
      simp only [List.length_nil] at h
      by_cases h0 : e.f0 = 0
      · rw [if_pos h0, if_pos h0, if_neg (by omega), ih _ _ (by omega)]
        omega
      · rw [if_neg h0, if_neg h0, ih _ _ (by omega)]
        simp
theorem refbytes_l0 (dir : Int) (l : List S40) (d : Nat) : ∀ (k i : Nat) (out : List Int), i ≤ l.length → l.length - i = d → d < k → l.length ≤ 1048576 → out.length + tot (l.drop i) ≤ 1048576 →
    cuecardref04_Bytes.l0 k dir l out (i : Int) = some (out ++ way dir (l.drop i)) := by
  induction d with
  | zero =>
    intro k i out h1 h2 hk hl ht
    obtain ⟨k, rfl⟩ : ∃ m, k = m + 1 := ⟨k - 1, by omega⟩
    obtain rfl : i = l.length := by omega
    rw [List.drop_length]
    simp only [cuecardref04_Bytes.l0]
    rw [if_neg (by omega)]
    simp [way]
  | succ d ih =>
    intro k i out h1 h2 hk hl ht
    obtain ⟨k, rfl⟩ : ∃ m, k = m + 1 := ⟨k - 1, by omega⟩
    have hi : i < l.length := by omega
    rw [List.drop_eq_getElem_cons hi] at ht ⊢
    rw [tot_cons] at ht
    simp only [cuecardref04_Bytes.l0, rdT l i hi]
    rw [if_pos (by omega), if_pos (by omega), wr_i (by omega), way_cons]
    by_cases h : l[i].f0 = dir
    · rw [if_pos h, if_pos h, if_pos (by omega), ih k (i + 1) _ (by omega) (by omega) (by omega) hl (by rw [List.length_append]; omega)]
      simp
    · rw [if_neg h, if_neg h, ih k (i + 1) _ (by omega) (by omega) (by omega) hl (by omega)]
      simp
theorem refbytes_f (dir : Int) (l : List S40) (h : small l) (k : Nat) (hk : l.length < k) : cuecardref04_Bytes.f k dir l = some (way dir l) := by
  have ht := small_tot h
  have := refbytes_l0 dir l l.length k 0 [] (by omega) (by omega) hk (by omega) (by simp; omega)
  rw [List.drop_zero] at this
  exact this
theorem bytes_f (dir : Int) (l : List S40) (h : small l) (k : Nat) : event_Bytes.f k dir l = some (way dir l) := by
  have ht := small_tot h
  unfold event_Bytes.f
  rw [if_pos ⟨by omega, fun x hx => by have := tot_mem hx; omega⟩]
  rfl
theorem i64_of_wf {x : Int} (hx : (Lit.int .i64 x).wf = true) : -9223372036854775808 ≤ x ∧ x ≤ 9223372036854775807 := by
  simp only [Lit.wf, IntKind.min, IntKind.max, IntKind.signed, IntKind.bits, Bool.and_eq_true] at hx
  simp at hx
  omega
/-! ### what is merged -/
def mstep (out : List S40) (e : S40) : List S40 :=
  if e.f2.length = 0 then out else match out.getLast? with
    | none => out ++ [e]
    | some p => if p.f0 = e.f0 then out.dropLast ++ [⟨p.f0, p.f1, p.f2 ++ e.f2⟩] else out ++ [e]
def mrg (l : List S40) : List S40 := l.foldl mstep []
theorem mstep_nil {out : List S40} {e : S40} (h : e.f2.length = 0) : mstep out e = out := if_pos h
theorem mstep_first {e : S40} (h : e.f2.length ≠ 0) : mstep [] e = [e] := by unfold mstep; rw [if_neg h]; rfl
theorem mstep_join {L : List S40} {p e : S40} (h : e.f2.length ≠ 0) (hp : p.f0 = e.f0) : mstep (L ++ [p]) e = L ++ [⟨p.f0, p.f1, p.f2 ++ e.f2⟩] := by
  unfold mstep
  rw [if_neg h, List.getLast?_concat]
  simp only [if_pos hp, List.dropLast_concat]
theorem mstep_far {L : List S40} {p e : S40} (h : e.f2.length ≠ 0) (hp : p.f0 ≠ e.f0) : mstep (L ++ [p]) e = L ++ [p] ++ [e] := by
  unfold mstep
  rw [if_neg h, List.getLast?_concat]
  simp only [if_neg hp]
theorem tot_append (l m : List S40) : tot (l ++ m) = tot l + tot m := by simp [tot]
theorem tot_one (x : S40) : tot [x] = x.f2.length := by simp [tot]
theorem set_last {L : List S40} {p q : S40} : (L ++ [p]).set L.length q = L ++ [q] := by
  rw [List.set_append_right _ _ (Nat.le_refl _), Nat.sub_self]
  rfl
theorem clone_f {l : List Int} (h : l.length ≤ 1048576) (k : Nat) : bytes_Clone.f k l = some l := by
  unfold bytes_Clone.f
  rw [if_pos (by omega)]
theorem merge_l0 (l : List S40) (hlen : l.length ≤ 1048576) (d : Nat) : ∀ (i k : Nat) (out : List S40), i + d = l.length → d < k → out.length + d ≤ 1048576 → tot out + tot (l.drop i) ≤ 1048576 →
    event_Merge.l0 k out l (l.length : Int) (i : Int) = some ((l.drop i).foldl mstep out) := by
  induction d with
  | zero =>
    intro i k out hi hk hl ht
    obtain ⟨k, rfl⟩ : ∃ m, k = m + 1 := ⟨k - 1, by omega⟩
    rw [event_Merge.l0, if_neg (by omega), List.drop_of_length_le (by omega)]
    rfl
  | succ d ih =>
    intro i k out hi hk hl ht
    obtain ⟨k, rfl⟩ : ∃ m, k = m + 1 := ⟨k - 1, by omega⟩
    have hlt : i < l.length := by omega
    rw [List.drop_eq_getElem_cons hlt, tot_cons] at ht
    rw [event_Merge.l0, if_pos (by omega), if_pos (by omega), if_pos (by omega), rdT l i hlt, List.drop_eq_getElem_cons hlt, List.foldl_cons]
    by_cases h0 : l[i].f2.length = 0
    · rw [if_pos (by omega), wr_i (by omega), mstep_nil h0]
      exact ih (i + 1) k out (by omega) (by omega) (by omega) (by omega)
    rw [if_neg (by omega)]
    rcases List.eq_nil_or_concat out with rfl | ⟨L, p, rfl⟩
    · rw [if_neg (by simp), clone_f (by omega)]
      simp only [Option.bind_some]
      rw [if_pos (by simp), wr_i (by omega), mstep_first h0]
      exact ih (i + 1) k [l[i]] (by omega) (by omega) (by simp at hl ⊢; omega) (by rw [tot_one]; omega)
    · rw [List.concat_eq_append] at *
      simp only [List.length_append, List.length_cons, List.length_nil] at hl
      rw [tot_append, tot_one] at ht
      have hw := Lib.hid (show wrap64 (((L ++ [p]).length : Int) - 1) = (L.length : Int) by rw [List.length_append, List.length_singleton]; unfold wrap64; omega)
      rw [if_pos (by rw [List.length_append, List.length_singleton]; omega), hw.out, if_pos (by omega), if_pos (by rw [List.length_append, List.length_singleton]; omega), rdT (L ++ [p]) L.length (by simp)]
      rw [show (L ++ [p])[L.length]'(by simp) = p from List.getElem_concat_length rfl _]
      by_cases hp : p.f0 = l[i].f0
      · rw [if_pos hp, if_pos (by omega), Int.toNat_natCast, set_last, wr_i (by omega), mstep_join h0 hp]
        exact ih (i + 1) k _ (by omega) (by omega) (by simp; omega) (by rw [tot_append, tot_one, List.length_append]; omega)
      · rw [if_neg hp, clone_f (by omega)]
        simp only [Option.bind_some]
        rw [if_pos (by simp; omega), wr_i (by omega), mstep_far h0 hp]
        exact ih (i + 1) k (L ++ [p] ++ [l[i]]) (by omega) (by omega) (by simp; omega) (by rw [tot_append, tot_append, tot_one, tot_one]; omega)
theorem merge_f (l : List S40) (h : small l) {k : Nat} (hk : l.length < k) : event_Merge.f k l = some (mrg l) := by
  have ht := small_tot h
  exact merge_l0 l (by omega) l.length 0 k [] (by omega) (by omega) (by simp; omega) (by simp [tot] at ht ⊢; omega)
/-- what holds of each step holds of what is merged -/
theorem mrg_ind {Q : List S40 → List S40 → Prop} (l : List S40) (h0 : Q [] l) (hs : ∀ out e r, Q out (e :: r) → Q (mstep out e) r) : Q (mrg l) [] := by
  have key : ∀ (r out : List S40), Q out r → Q (r.foldl mstep out) [] := by
    intro r
    induction r with
    | nil => intro out h; exact h
    | cons e r ih => intro out h; exact ih _ (hs out e r h)
  exact key l [] h0
theorem mstep_cases (out : List S40) (e : S40) : (e.f2.length = 0 ∧ mstep out e = out) ∨ (e.f2.length ≠ 0 ∧ ((out = [] ∧ mstep out e = [e]) ∨ ∃ L p, out = L ++ [p] ∧ ((p.f0 = e.f0 ∧ mstep out e = L ++ [⟨p.f0, p.f1, p.f2 ++ e.f2⟩]) ∨ (p.f0 ≠ e.f0 ∧ mstep out e = L ++ [p] ++ [e])))) := by
  by_cases h : e.f2.length = 0
  · exact .inl ⟨h, mstep_nil h⟩
  · refine .inr ⟨h, ?_⟩
    rcases List.eq_nil_or_concat out with rfl | ⟨L, p, rfl⟩
    · exact .inl ⟨rfl, mstep_first h⟩
    · rw [List.concat_eq_append]
      refine .inr ⟨L, p, rfl, ?_⟩
      by_cases hp : p.f0 = e.f0
      · exact .inl ⟨hp, mstep_join h hp⟩
      · exact .inr ⟨hp, mstep_far h hp⟩
theorem way_append (d : Int) (l m : List S40) : way d (l ++ m) = way d l ++ way d m := by simp [way]
theorem way_one (d : Int) (x : S40) : way d [x] = if x.f0 = d then x.f2 else [] := by
  rw [way_cons]
  simp [way]
theorem way_mrg (d : Int) (l : List S40) : way d (mrg l) = way d l := by
  have := mrg_ind (Q := fun out r => way d out ++ way d r = way d l) l (by simp [way]) (fun out e r h => by
    rw [← h, way_cons]
    rcases mstep_cases out e with ⟨h0, hm⟩ | ⟨h0, ⟨rfl, hm⟩ | ⟨L, p, rfl, ⟨hp, hm⟩ | ⟨hp, hm⟩⟩⟩
    · rw [hm, show e.f2 = [] from List.eq_nil_of_length_eq_zero h0]; simp
    · rw [hm, way_one]; simp [way]
    · rw [hm, way_append, way_append, way_one, way_one]
      by_cases hd : p.f0 = d
      · rw [if_pos hd, if_pos hd, if_pos (by omega)]; simp
      · rw [if_neg hd, if_neg hd, if_neg (by omega)]; simp
    · rw [hm, way_append, way_append, way_one _ e]; simp)
  simpa [way] using this
def chk : List S40 → Nat → Int
  | [], _ => 0
  | x :: r, a => if x.f0 ≠ 0 ∧ x.f0 ≠ 1 then 2 else if 65536 < x.f2.length ∨ 262144 < a + x.f2.length then 6 else chk r (a + x.f2.length)
theorem check_l0 (l : List S40) (hl : small l) : ∀ d i k a : Nat, i + d = l.length → a ≤ 262144 → 2 * d + 1 ≤ k → event_Check.l0 k (262144 - (a : Int)) l (l.length : Int) (i : Int) = some (chk (l.drop i) a) := by
  have hs := small_tot hl
  intro d
  induction d with
  | zero =>
    intro i k a hi ha hk
    obtain ⟨k, rfl⟩ : ∃ k', k = k' + 1 := ⟨k - 1, by omega⟩
    rw [event_Check.l0, if_neg (by omega), List.drop_of_length_le (by omega)]
    rfl
  | succ d ih =>
    intro i k a hi ha hk
    obtain ⟨k, rfl⟩ : ∃ k', k = k' + 1 + 1 := ⟨k - 2, by omega⟩
    have hlt : i < l.length := by omega
    have hx := tot_mem (List.getElem_mem hlt)
    rw [event_Check.l0, if_pos (by omega), if_pos (by omega), if_pos (by omega), rdT l i hlt, List.drop_eq_getElem_cons hlt, chk]
    have hj : ∀ b, b = decide (l[i].f0 ≠ 0 ∧ l[i].f0 ≠ 1) → event_Check.j1 (k + 1) (wrap64 (262144 - (a : Int) - (l[i].f2.length : Int))) l (l.length : Int) (i : Int) b l[i].f0 l[i].f1 l[i].f2 = some (if l[i].f0 ≠ 0 ∧ l[i].f0 ≠ 1 then 2 else if 65536 < l[i].f2.length ∨ 262144 < a + l[i].f2.length then 6 else chk (l.drop (i + 1)) (a + l[i].f2.length)) := by
      intro b hb
      have hw : wrap64 (262144 - (a : Int) - (l[i].f2.length : Int)) = 262144 - (a : Int) - (l[i].f2.length : Int) := by unfold wrap64; omega
      have hw1 : wrap64 ((i : Int) + 1) = ((i + 1 : Nat) : Int) := by unfold wrap64; omega
      rw [event_Check.j1, hw, hw1]
      by_cases h : l[i].f0 ≠ 0 ∧ l[i].f0 ≠ 1
      · rw [hb, decide_eq_true h, if_pos rfl, if_pos h]
      · rw [hb, decide_eq_false h, if_neg (by decide), if_neg h]
        by_cases h2 : 65536 < l[i].f2.length
        · rw [if_pos (by omega), if_pos (.inl h2)]
        · rw [if_neg (by omega)]
          by_cases h3 : 262144 < a + l[i].f2.length
          · rw [if_pos (by omega), if_pos (.inr h3)]
          · rw [if_neg (by omega), if_neg (by omega)]
            have := ih (i + 1) k (a + l[i].f2.length) (by omega) (by omega) (by omega)
            rw [← this]
            congr 1
            omega
    by_cases h0 : l[i].f0 = 0
    · rw [if_pos h0]
      exact hj false (by rw [decide_eq_false]; exact fun h => h.1 h0)
    · rw [if_neg h0]
      refine hj _ ?_
      by_cases h1 : l[i].f0 = 1
      · rw [decide_eq_false (fun h => h.2 h1)]; simp [h1]
      · rw [decide_eq_true ⟨h0, h1⟩]; simpa using h1
theorem check_f (l : List S40) (hl : small l) {k : Nat} (hk : 2 * l.length + 1 ≤ k) : event_Check.f k l = some (if 4096 < l.length then 10 else chk l 0) := by
  unfold event_Check.f
  by_cases h : 4096 < l.length
  · rw [if_pos (by omega), if_pos h]
  · rw [if_neg (by omega), if_neg h]
    exact check_l0 l hl l.length 0 k 0 (by omega) (by omega) hk
theorem refcheck_l0 (l : List S40) (hl : small l) : ∀ d i k a : Nat, i + d = l.length → a ≤ 262144 → 2 * d + 1 ≤ k → cuecardref04_Check.l0 k l (a : Int) (i : Int) = some (chk (l.drop i) a) := by
  have hs := small_tot hl
  intro d
  induction d with
  | zero =>
    intro i k a hi ha hk
    obtain ⟨k, rfl⟩ : ∃ k', k = k' + 1 := ⟨k - 1, by omega⟩
    rw [cuecardref04_Check.l0, if_neg (by omega), List.drop_of_length_le (by omega)]
    rfl
  | succ d ih =>
    intro i k a hi ha hk
    obtain ⟨k, rfl⟩ : ∃ k', k = k' + 1 + 1 := ⟨k - 2, by omega⟩
    have hlt : i < l.length := by omega
    have hx := tot_mem (List.getElem_mem hlt)
    rw [cuecardref04_Check.l0, if_pos (by omega), if_pos (by omega), rdT l i hlt, List.drop_eq_getElem_cons hlt, chk]
    have hj : ∀ b, b = decide (l[i].f0 ≠ 0 ∧ l[i].f0 ≠ 1) → cuecardref04_Check.j1 (k + 1) l (a : Int) (i : Int) b = some (if l[i].f0 ≠ 0 ∧ l[i].f0 ≠ 1 then 2 else if 65536 < l[i].f2.length ∨ 262144 < a + l[i].f2.length then 6 else chk (l.drop (i + 1)) (a + l[i].f2.length)) := by
      intro b hb
      have hw : wrap64 ((a : Int) + (l[i].f2.length : Int)) = ((a + l[i].f2.length : Nat) : Int) := by unfold wrap64; omega
      have hw1 : wrap64 ((i : Int) + 1) = ((i + 1 : Nat) : Int) := by unfold wrap64; omega
      rw [cuecardref04_Check.j1, if_pos (show (0 : Int) ≤ (i : Int) by omega), if_pos (show (i : Int) < (l.length : Int) by omega), rdT l i hlt, hw, hw1]
      by_cases h : l[i].f0 ≠ 0 ∧ l[i].f0 ≠ 1
      · rw [hb, decide_eq_true h, if_pos rfl, if_pos h]
      · rw [hb, decide_eq_false h, if_neg (by decide), if_neg h]
        by_cases h2 : 65536 < l[i].f2.length
        · rw [if_pos (by omega), if_pos (.inl h2)]
        · rw [if_neg (by omega)]
          by_cases h3 : 262144 < a + l[i].f2.length
          · rw [if_pos (by omega), if_pos (.inr h3)]
          · rw [if_neg (by omega), if_neg (by omega)]
            exact ih (i + 1) k (a + l[i].f2.length) (by omega) (by omega) (by omega)
    by_cases h0 : l[i].f0 = 0
    · rw [if_pos h0]
      exact hj false (by rw [decide_eq_false]; exact fun h => h.1 h0)
    · rw [if_neg h0]
      refine hj _ ?_
      by_cases h1 : l[i].f0 = 1
      · rw [decide_eq_false (fun h => h.2 h1)]; simp [h1]
      · rw [decide_eq_true ⟨h0, h1⟩]; simpa using h1
theorem refcheck_f (l : List S40) (hl : small l) {k : Nat} (hk : 2 * l.length + 1 ≤ k) : cuecardref04_Check.f k l = some (if 4096 < l.length then 10 else chk l 0) := by
  unfold cuecardref04_Check.f
  by_cases h : 4096 < l.length
  · rw [if_pos (by omega), if_pos h]
  · rw [if_neg (by omega), if_neg h]
    exact refcheck_l0 l hl l.length 0 k 0 (by omega) (by omega) hk
end Go.Proofs.Ytpcednpkkimehaa.QA
