import Derived.Lib.Hide
import Derived.Test.YtjcaflhlilckgaaPEvents
import Derived.Test.YtjcaflhlilckgaaQAx11
namespace Go.Proofs.Ytjcaflhlilckgaa.QA
open Go.RowKit Go.Proofs.YtjcaflhlilckgaaW.PrintWords Go.Proofs.YtjcaflhlilckgaaW.PrintMore
set_option linter.unusedVariables false
set_option linter.unusedSimpArgs false
/-! ### turns of turns' events; what each said -/
theorem str_append (a b : List Int) : strOfNums a ++ strOfNums b = strOfNums (a ++ b) := by
  apply ByteArray.ext
  rw [ByteArray.data_append]
  simp [strOfNums]
theorem dst_new (out : List S33) (cur : S33) (last : Option Int) (d t : Int) (b : List Int) (hb : b.length ≠ 0) (hl : last ≠ some d) : dst ((out, cur), last) ⟨d, t, b⟩ = (tstep (out, cur) ⟨d, t, b⟩, some d) := by
  unfold dst
  rw [if_neg hb, if_neg hl]
theorem evs_fold (r : List S33) : ∀ (out : List S33) (cur : S33), cur.f1 ≠ [] → (∀ u ∈ r, u.f0 ≠ []) → Ch r → fin ((evs r).foldl dst ((out, cur), some 1)).1 = out ++ cur :: r := by
  induction r with
  | nil =>
    intro out cur hc _ _
    have hf : full cur := by unfold full; have := ne_len hc; omega
    show fin (out, cur) = _
    unfold fin
    rw [if_pos hf]
  | cons t r ih =>
    intro out cur hc hu hch
    have hf : full cur := by unfold full; have := ne_len hc; omega
    have h0 := ne_len (hu t (List.mem_cons_self ..))
    have e1 : dst ((out, cur), some 1) ⟨0, 0, t.f0⟩ = ((out ++ [cur], ⟨t.f0, []⟩), some 0) := by
      rw [dst_new _ _ _ _ _ _ (by omega) (by decide)]
      unfold tstep
      rw [if_neg (show ¬ (0 : Int) = 1 by decide)]
      simp only [if_pos hf]
    rw [evs_cons]
    unfold ev1
    rw [if_pos h0, List.append_assoc, List.singleton_append, List.foldl_cons, e1]
    by_cases h1 : 0 < t.f1.length
    · have e2 : dst ((out ++ [cur], ⟨t.f0, []⟩), some 0) ⟨1, 0, t.f1⟩ = ((out ++ [cur], t), some 1) := by
        rw [dst_new _ _ _ _ _ _ (by omega) (by decide)]
        unfold tstep
        rw [if_pos rfl]
      rw [if_pos h1, List.singleton_append, List.foldl_cons, e2, ih (out ++ [cur]) t (fun e => by rw [e] at h1; simp at h1) hch.2.1 hch.2.2]
      simp
    · have hr : r = [] := by
        by_cases hr : r = []
        · exact hr
        · have := ne_len (hch.1 hr); omega
      subst hr
      have h2 : t.f1 = [] := List.eq_nil_of_length_eq_zero (by omega)
      have ht : (⟨t.f0, []⟩ : S33) = t := by cases t; simp at h2; rw [h2]
      rw [if_neg h1, ht]
      show fin (out ++ [cur], t) = _
      unfold fin
      rw [if_pos (show full t from by unfold full; omega)]
      simp
theorem dirs_evs (T : List S33) : dirs (evs T) = evs T := by
  unfold dirs
  rw [List.filter_eq_self]
  intro e he
  obtain ⟨t, _, h⟩ := List.mem_flatMap.1 he
  unfold ev1 at h
  rcases List.mem_append.1 h with h | h
  · split at h
    · rw [List.mem_singleton.1 h]; rfl
    · cases h
  · split at h
    · rw [List.mem_singleton.1 h]; rfl
    · cases h
theorem trn_evs (T : List S33) (hc : Ch T) (hf : ∀ t ∈ T, full t) : trn (evs T) = T := by
  unfold trn
  rw [dirs_evs]
  cases T with
  | nil => rfl
  | cons t r =>
    have hft := hf t (List.mem_cons_self ..)
    have hnf : ¬ full (⟨[], []⟩ : S33) := by unfold full; simp
    rw [evs_cons]
    unfold ev1
    by_cases h0 : 0 < t.f0.length
    · have e1 : dst st0 ⟨0, 0, t.f0⟩ = (([], ⟨t.f0, []⟩), some 0) := by
        unfold st0
        rw [dst_new _ _ _ _ _ _ (by omega) (by decide)]
        unfold tstep
        rw [if_neg (show ¬ (0 : Int) = 1 by decide)]
        simp only [if_neg hnf]
      rw [if_pos h0, List.append_assoc, List.singleton_append, List.foldl_cons, e1]
      by_cases h1 : 0 < t.f1.length
      · have e2 : dst (([], ⟨t.f0, []⟩), some 0) ⟨1, 0, t.f1⟩ = (([], t), some 1) := by
          rw [dst_new _ _ _ _ _ _ (by omega) (by decide)]
          unfold tstep
          rw [if_pos rfl]
        rw [if_pos h1, List.singleton_append, List.foldl_cons, e2, evs_fold r [] t (fun e => by rw [e] at h1; simp at h1) hc.2.1 hc.2.2]
        simp
      · have hr : r = [] := by
          by_cases hr : r = []
          · exact hr
          · have := ne_len (hc.1 hr); omega
        subst hr
        have h2 : t.f1 = [] := List.eq_nil_of_length_eq_zero (by omega)
        have ht : (⟨t.f0, []⟩ : S33) = t := by cases t; simp at h2; rw [h2]
        rw [if_neg h1, ht]
        show fin ([], t) = _
        unfold fin
        rw [if_pos hft]
        rfl
    · have h1 : 0 < t.f1.length := by unfold full at hft; omega
      have h2 : t.f0 = [] := List.eq_nil_of_length_eq_zero (by omega)
      have ht : (⟨[], t.f1⟩ : S33) = t := by cases t; simp at h2; rw [h2]
      have e2 : dst st0 ⟨1, 0, t.f1⟩ = (([], t), some 1) := by
        unfold st0
        rw [dst_new _ _ _ _ _ _ (by omega) (by decide)]
        unfold tstep
        rw [if_pos rfl, ht]
      rw [if_neg h0, if_pos h1, List.nil_append, List.singleton_append, List.foldl_cons, e2, evs_fold r [] t (fun e => by rw [e] at h1; simp at h1) hc.2.1 hc.2.2]
      simp
def os (T : List S33) : List Int := T.flatMap (·.f0)
def is (T : List S33) : List Int := T.flatMap (·.f1)
def bs (d : Int) (l : List S37) : List Int := (l.filter fun e => e.f0 == d).flatMap (·.f2)
theorem os_append (a b : List S33) : os (a ++ b) = os a ++ os b := List.flatMap_append
theorem is_append (a b : List S33) : is (a ++ b) = is a ++ is b := List.flatMap_append
theorem os_one (t : S33) : os [t] = t.f0 := by simp [os]
theorem is_one (t : S33) : is [t] = t.f1 := by simp [is]
theorem os_len (T : List S33) : (os T).length = to1 T := by
  induction T with
  | nil => rfl
  | cons t r ih => rw [show os (t :: r) = t.f0 ++ os r from rfl, List.length_append, ih, to1_cons]
theorem is_len (T : List S33) : (is T).length = ti1 T := by
  induction T with
  | nil => rfl
  | cons t r ih => rw [show is (t :: r) = t.f1 ++ is r from rfl, List.length_append, ih, ti1_cons]
theorem bs_append (d : Int) (a b : List S37) : bs d (a ++ b) = bs d a ++ bs d b := by simp [bs]
theorem bs_cons (d : Int) (e : S37) (r : List S37) : bs d (e :: r) = (if e.f0 = d then e.f2 else []) ++ bs d r := by
  unfold bs
  by_cases h : e.f0 = d
  · rw [if_pos h, List.filter_cons_of_pos (by simpa using h)]; rfl
  · rw [if_neg h, List.filter_cons_of_neg (by simpa using h)]; rfl
theorem dst_bytes (s : (List S33 × S33) × Option Int) (e : S37) (he : e.f0 = 0 ∨ e.f0 = 1) (h : DInv s) :
    os (dst s e).1.1 ++ (dst s e).1.2.f0 = os s.1.1 ++ s.1.2.f0 ++ (if e.f0 = 0 then e.f2 else []) ∧ is (dst s e).1.1 ++ (dst s e).1.2.f1 = is s.1.1 ++ s.1.2.f1 ++ (if e.f0 = 1 then e.f2 else []) := by
  obtain ⟨⟨out, cur⟩, last⟩ := s
  obtain ⟨h1, h2, h3⟩ := h
  simp only at h1 h2 h3
  unfold dst
  by_cases h0 : e.f2.length = 0
  · rw [if_pos h0, List.eq_nil_of_length_eq_zero h0]
    simp
  · rw [if_neg h0]
    by_cases hl : last = some e.f0
    · rw [if_pos hl]
      unfold joined
      rcases he with he | he
      · have e1 : ¬ e.f0 = 1 := by omega
        rw [if_pos he, if_neg e1, if_neg e1]
        simp
      · have e1 : ¬ e.f0 = 0 := by omega
        rw [if_pos he, if_neg e1, if_pos he]
        simp
    · rw [if_neg hl]
      unfold tstep
      rcases he with he | he
      · have e1 : ¬ e.f0 = 1 := by omega
        rw [if_pos he, if_neg e1, if_neg e1]
        by_cases hf : full cur
        · simp only [if_pos hf, os_append, is_append, os_one, is_one, List.append_nil]
          simp
        · have z0 : cur.f0 = [] := List.eq_nil_of_length_eq_zero (by unfold full at hf; omega)
          have z1 : cur.f1 = [] := List.eq_nil_of_length_eq_zero (by unfold full at hf; omega)
          simp only [if_neg hf, z0, z1, List.append_nil]
          simp
      · have e1 : ¬ e.f0 = 0 := by omega
        rw [if_pos he, if_neg e1, if_pos he]
        have z1 : cur.f1 = [] := by
          rcases h3 with ⟨_, _, rfl⟩ | ⟨h4, _⟩ | ⟨_, _, h5⟩
          · rfl
          · exact absurd (by rw [h4, he]) hl
          · exact h5
        simp only [z1, List.append_nil]
        simp
theorem fold_bytes (m : List S37) : ∀ s, (∀ e ∈ m, e.f0 = 0 ∨ e.f0 = 1) → DInv s →
    os (m.foldl dst s).1.1 ++ (m.foldl dst s).1.2.f0 = os s.1.1 ++ s.1.2.f0 ++ bs 0 m ∧ is (m.foldl dst s).1.1 ++ (m.foldl dst s).1.2.f1 = is s.1.1 ++ s.1.2.f1 ++ bs 1 m := by
  induction m with
  | nil => intro s _ _; simp [bs]
  | cons e r ih =>
    intro s hm h
    have he := hm e (List.mem_cons_self ..)
    have h1 := ih (dst s e) (fun x hx => hm x (List.mem_cons_of_mem _ hx)) (dst_inv s e he h)
    have h2 := dst_bytes s e he h
    rw [List.foldl_cons, bs_cons, bs_cons, h1.1, h1.2, h2.1, h2.2, List.append_assoc (os _ ++ _), List.append_assoc (is _ ++ _)]
    exact ⟨rfl, rfl⟩
theorem bs_dirs (d : Int) (hd : d = 0 ∨ d = 1) (l : List S37) : bs d (dirs l) = bs d l := by
  unfold bs dirs
  rw [List.filter_filter]
  congr 1
  apply List.filter_congr
  intro e _
  rcases hd with rfl | rfl
  · cases h : e.f0 == 0 <;> simp_all
  · cases h : e.f0 == 1 <;> simp_all
theorem fin_bytes (s : List S33 × S33) : os (fin s) = os s.1 ++ s.2.f0 ∧ is (fin s) = is s.1 ++ s.2.f1 := by
  unfold fin
  split
  · rw [os_append, is_append, os_one, is_one]; exact ⟨rfl, rfl⟩
  · next h =>
    have z0 : s.2.f0 = [] := List.eq_nil_of_length_eq_zero (by unfold full at h; omega)
    have z1 : s.2.f1 = [] := List.eq_nil_of_length_eq_zero (by unfold full at h; omega)
    rw [z0, z1, List.append_nil, List.append_nil]
    exact ⟨rfl, rfl⟩
theorem trn_bytes (l : List S37) : os (trn l) = bs 0 l ∧ is (trn l) = bs 1 l := by
  have h := fold_bytes (dirs l) st0 dirs_dir ⟨by simp [st0], by simp [st0], .inl ⟨rfl, rfl, rfl⟩⟩
  have h2 := fin_bytes ((dirs l).foldl dst st0).1
  unfold trn
  rw [h2.1, h2.2, h.1, h.2, bs_dirs 0 (.inl rfl), bs_dirs 1 (.inr rfl)]
  exact ⟨rfl, rfl⟩
theorem bs_len (d : Int) (l : List S37) : (bs d l).length ≤ tot l := by
  induction l with
  | nil => exact Nat.zero_le _
  | cons e r ih =>
    rw [bs_cons, List.length_append, tot_cons]
    split
    · omega
    · simp; omega
theorem refbytes_l0 (x : Int) (l : List S37) (hl : l.length ≤ 1048576) (d : Nat) : ∀ (i k : Nat) (out : List Int), i + d = l.length → d + 1 ≤ k → out.length + tot (l.drop i) ≤ 1048576 →
    cuecardref04_Bytes.l0 k x l out (i : Int) = some (out ++ bs x (l.drop i)) := by
  induction d with
  | zero =>
    intro i k out hi hk ho
    obtain ⟨k, rfl⟩ : ∃ m, k = m + 1 := ⟨k - 1, by omega⟩
    obtain rfl : i = l.length := by omega
    rw [cuecardref04_Bytes.l0, if_neg (by omega), List.drop_length]
    simp [bs]
  | succ d ih =>
    intro i k out hi hk ho
    obtain ⟨k, rfl⟩ : ∃ m, k = m + 1 := ⟨k - 1, by omega⟩
    have hlt : i < l.length := by omega
    rw [List.drop_eq_getElem_cons hlt, tot_cons] at ho
    rw [List.drop_eq_getElem_cons hlt, bs_cons, cuecardref04_Bytes.l0, if_pos (by omega), if_pos (by omega), rdT l i hlt, wr_i (by omega)]
    by_cases h : l[i].f0 = x
    · rw [if_pos h, if_pos (by omega), if_pos h, ih (i + 1) k _ (by omega) (by omega) (by rw [List.length_append]; omega), List.append_assoc]
    · rw [if_neg h, if_neg h, ih (i + 1) k _ (by omega) (by omega) (by omega), List.nil_append]
theorem refbytes_f (x : Int) (l : List S37) (hl : l.length ≤ 1048576) (ht : tot l ≤ 1048576) {k : Nat} (hk : l.length + 1 ≤ k) : cuecardref04_Bytes.f k x l = some (bs x l) :=
  refbytes_l0 x l hl l.length 0 k [] (by omega) hk (by simpa using ht)
theorem ch_at {T : List S33} (hc : Ch T) : ∀ (i : Nat) (h : i < T.length), (0 < i → T[i].f0 ≠ []) ∧ (i + 1 < T.length → T[i].f1 ≠ []) := by
  induction T with
  | nil => intro i h; simp at h
  | cons t r ih =>
    intro i h
    cases i with
    | zero => exact ⟨fun h => absurd h (by omega), fun h => hc.1 (fun e => by rw [e] at h; simp at h)⟩
    | succ i =>
      have hir : i < r.length := by simpa using h
      refine ⟨fun _ => hc.2.1 _ (List.getElem_mem hir), fun h2 => ?_⟩
      exact (ih hc.2.2 i hir).2 (by simpa using h2)
theorem ch_take {T : List S33} (hc : Ch T) : ∀ n, Ch (T.take n) := by
  induction T with
  | nil => intro n; rw [List.take_nil]; exact trivial
  | cons t r ih =>
    intro n
    cases n with
    | zero => exact trivial
    | succ n =>
      rw [List.take_succ_cons]
      refine ⟨fun h => hc.1 (fun e => h (by rw [e, List.take_nil])), fun u hu => hc.2.1 u (List.mem_of_mem_take hu), ih hc.2.2 n⟩
end Go.Proofs.Ytjcaflhlilckgaa.QA
