import Derived.Lib.Hide
import Derived.Test.YtjcaflhlilckgaaPBackT
import Derived.Test.YtjcaflhlilckgaaQAx17
namespace Go.Proofs.Ytjcaflhlilckgaa.QA
open Go.RowKit Go.Proofs.YtjcaflhlilckgaaW.PrintWords Go.Proofs.YtjcaflhlilckgaaW.PrintMore
set_option linter.unusedVariables false
set_option linter.unusedSimpArgs false
/-! ### turns' events are no more than the events -/
theorem ev1_cnt (t : S33) : (ev1 t).length = (if 0 < t.f0.length then 1 else 0) + (if 0 < t.f1.length then 1 else 0) := by
  unfold ev1
  by_cases h0 : 0 < t.f0.length <;> by_cases h1 : 0 < t.f1.length <;> simp [h0, h1]
theorem fin_cnt (s : List S33 × S33) : (evs (fin s)).length = (evs s.1).length + (ev1 s.2).length := by
  unfold fin
  by_cases h : full s.2
  · rw [if_pos h, evs_append, List.length_append, evs_cons, show evs [] = [] from rfl, List.append_nil]
  · rw [if_neg h, ev1_cnt, if_neg (by unfold full at h; omega), if_neg (by unfold full at h; omega)]
    omega
theorem dst_cnt (s : (List S33 × S33) × Option Int) (e : S37) (he : e.f0 = 0 ∨ e.f0 = 1) (h : DInv s) : (evs (dst s e).1.1).length + (ev1 (dst s e).1.2).length ≤ (evs s.1.1).length + (ev1 s.1.2).length + 1 := by
  obtain ⟨⟨out, cur⟩, last⟩ := s
  unfold dst
  by_cases h0 : e.f2.length = 0
  · rw [if_pos h0]; omega
  · rw [if_neg h0]
    by_cases hl : last = some e.f0
    · rw [if_pos hl]
      unfold joined
      simp only [ev1_cnt]
      by_cases h1 : e.f0 = 1
      · simp only [if_pos h1]; repeat' split
        all_goals omega
      · simp only [if_neg h1]; repeat' split
        all_goals omega
    · rw [if_neg hl]
      unfold tstep
      by_cases h1 : e.f0 = 1
      · simp only [if_pos h1, ev1_cnt]; repeat' split
        all_goals omega
      · simp only [if_neg h1]
        have e1 : (ev1 ⟨e.f2, []⟩).length ≤ 1 := by rw [ev1_cnt]; simp; split <;> omega
        by_cases hf : full cur
        · simp only [if_pos hf, evs_append, List.length_append, evs_cons, show evs [] = [] from rfl, List.append_nil]; omega
        · simp only [if_neg hf]; omega
theorem trn_cnt (l : List S37) : (evs (trn l)).length ≤ l.length := by
  have key : ∀ (m : List S37) (s : (List S33 × S33) × Option Int), (∀ e ∈ m, e.f0 = 0 ∨ e.f0 = 1) → DInv s → (evs (m.foldl dst s).1.1).length + (ev1 (m.foldl dst s).1.2).length ≤ (evs s.1.1).length + (ev1 s.1.2).length + m.length := by
    intro m
    induction m with
    | nil => intro s _ _; simp
    | cons e r ih =>
      intro s hm hi
      have h1 := ih (dst s e) (fun x hx => hm x (List.mem_cons_of_mem _ hx)) (dst_inv s e (hm e (List.mem_cons_self ..)) hi)
      have h2 := dst_cnt s e (hm e (List.mem_cons_self ..)) hi
      rw [List.foldl_cons, List.length_cons]
      omega
  have h := key (dirs l) st0 dirs_dir ⟨by simp [st0], by simp [st0], .inl ⟨rfl, rfl, rfl⟩⟩
  have h2 : (dirs l).length ≤ l.length := List.length_filter_le _ _
  have h3 : (evs st0.1.1).length + (ev1 st0.1.2).length = 0 := rfl
  unfold trn
  rw [fin_cnt]
  omega
theorem evs_take (T : List S33) (q : Nat) : (evs (T.take q)).length ≤ (evs T).length := by
  have := congrArg List.length (evs_append (T.take q) (T.drop q))
  rw [List.take_append_drop, List.length_append] at this
  omega
theorem tmod_le2 (a : Int) {n : Nat} (hn : n < 2 ^ 62) : ∃ q : Nat, q ≤ n ∧ wrap64 (Int.tmod (IntKind.u64.wrap a) (IntKind.u64.wrap (wrap64 ((n : Int) + 1)))) = (q : Int) ∧ ¬ IntKind.u64.wrap (wrap64 ((n : Int) + 1)) = 0 := by
  have w : ∀ x : Int, IntKind.u64.wrap x = x % 18446744073709551616 := fun x => by simp [IntKind.wrap, IntKind.bits, IntKind.signed]
  have e1 : wrap64 ((n : Int) + 1) = (n : Int) + 1 := by unfold wrap64; omega
  rw [e1, w, w, show (((n : Int) + 1) % 18446744073709551616) = (n : Int) + 1 by omega, Int.tmod_eq_emod_of_nonneg (by omega)]
  have h1 := Int.emod_nonneg (a % 18446744073709551616) (show (n : Int) + 1 ≠ 0 by omega)
  have h2 := Int.emod_lt_of_pos (a % 18446744073709551616) (show (0 : Int) < (n : Int) + 1 by omega)
  obtain ⟨q, hq⟩ := Int.eq_ofNat_of_zero_le h1
  rw [hq] at h2 ⊢
  exact ⟨q, by omega, by unfold wrap64; omega, by omega⟩
theorem te_l0 (l : List S37) (hf : few l) (q : Nat) (hq : q ≤ (trn l).length) (K : Nat) (hK : 1000000 ≤ K) (d : Nat) : ∀ (i k a b : Nat), i + d = ((trn l).take q).length → d + K ≤ k → a + ti1 (((trn l).take q).drop i) = ti1 ((trn l).take q) → b + to1 (((trn l).take q).drop i) = to1 ((trn l).take q) →
    cuecardlaw10_TurnEnds.l0 k l (trn l) (q : Int) (a : Int) (b : Int) ((trn l).take q) (((trn l).take q).length : Int) (i : Int) = some true := by
  have h1 := hf.1
  have h2 := hf.2
  have h3 := trn_len l
  have h4 := trn_size l
  have h5 := ti1_take (trn l) q
  have h6 := to1_take (trn l) q
  have h7 : ((trn l).take q).length = q := by rw [List.length_take]; omega
  induction d with
  | zero =>
    intro i k a b hi hk ha hb
    obtain ⟨k, rfl⟩ : ∃ m, k = m + 1 := ⟨k - 1, by omega⟩
    rw [show i = ((trn l).take q).length by omega, List.drop_length] at ha hb
    have ha2 : a = ti1 ((trn l).take q) := by simpa [ti1] using ha
    have hb2 : b = to1 ((trn l).take q) := by simpa [to1] using hb
    clear ha hb
    have e1 : (mx 0 (mn (q : Int) ((trn l).length : Int))).toNat = q := by unfold mx mn; split <;> split <;> omega
    have e3 : (mx 0 (mn ((trn l).length : Int) ((trn l).length : Int))).toNat = (trn l).length := by unfold mx mn; split <;> split <;> omega
    have E4 := Lib.hid (show (mx 0 (mn (4611686018427387904 : Int) ((trn l).length : Int))).toNat = (trn l).length from by unfold mx mn; split <;> split <;> omega)
    have ew : wrap64 ((q : Int) - 1) = (q : Int) - 1 := by unfold wrap64; omega
    obtain ⟨c, hcc, hcl, hcx⟩ := sn_nat ((q : Int) - 1) (trn l).length (by omega) (by omega)
    have e2 : c = q := by
      unfold mx mn at hcx
      split at hcx <;> split at hcx <;> omega
    have hbl : (bs 1 l).length = ti1 (trn l) := by rw [← (trn_bytes l).2, is_len]
    rw [cuecardlaw10_TurnEnds.l0, if_neg (by omega), refbytes_f 1 l (by omega) (by omega) (by omega), Option.bind_some, show cuecardlaw10_alive.f k = some true from rfl, Option.bind_some, if_pos rfl, told_f _ _ (by omega) (by omega) (by omega), Option.bind_some, e1, if_pos (by omega), ew, seen_f _ _ (by omega) (by omega) (by omega) (by omega), Option.bind_some, hcc, Int.toNat_natCast, e2, if_pos (by omega),
      told_f _ _ (by omega) (by omega) (by omega), Option.bind_some, e3, List.take_length, if_pos (by omega), told_f _ _ (by omega) (by omega) (by omega), Option.bind_some, E4.out, List.take_length, hbl]
    simp
  | succ d ih =>
    intro i k a b hi hk ha hb
    obtain ⟨k, rfl⟩ : ∃ m, k = m + 1 := ⟨k - 1, by omega⟩
    have hlt : i < ((trn l).take q).length := by omega
    rw [List.drop_eq_getElem_cons hlt, ti1_cons] at ha
    rw [List.drop_eq_getElem_cons hlt, to1_cons] at hb
    rw [cuecardlaw10_TurnEnds.l0, if_pos (by omega), if_pos (by omega), if_pos (by omega), rdT33 _ i hlt, wr_add (by omega), wr_add (by omega), wr_i (by omega)]
    exact ih (i + 1) k _ _ (by omega) (by omega) (by omega) (by omega)
theorem TurnEnds (l : List S37) (hs : small l) (a1 : Int) : ∃ k, cuecardlaw10_TurnEnds.f k l a1 = some true := by
  obtain ⟨K, hK⟩ : ∃ K, 1000000 ≤ K := ⟨_, Nat.le_refl _⟩
  obtain ⟨k, hk⟩ : ∃ k, K + K + K ≤ k := ⟨_, Nat.le_refl _⟩
  refine ⟨k, ?_⟩
  have hf := few_of hs
  have h1 := hf.1
  have h2 := hf.2
  have h3 := trn_len l
  have h4 := trn_size l
  obtain ⟨q, hq, he, hne⟩ := tmod_le2 a1 (show (trn l).length < 2 ^ 62 by omega)
  have h5 := ti1_take (trn l) q
  have h6 := to1_take (trn l) q
  have h7 : ((trn l).take q).length = q := by rw [List.length_take]; omega
  have hE := evs_len ((trn l).take q)
  have hT := evs_tot ((trn l).take q)
  have hc1 := trn_cnt l
  have hc2 := evs_take (trn l) q
  have hfe : few (evs ((trn l).take q)) := ⟨by omega, by omega⟩
  unfold cuecardlaw10_TurnEnds.f
  rw [of_f l hf (by omega), Option.bind_some, if_neg hne, he, if_pos (by omega), if_pos (by omega), Int.toNat_natCast, events_f _ (by omega) (by omega), Option.bind_some, of_f _ hfe (by omega), Option.bind_some, trn_evs _ (ch_take (trn_ch l).1 q) (fun t ht => (trn_ch l).2 t (List.mem_of_mem_take ht)), same_f _ (by omega) (by omega), Option.bind_some, if_pos rfl, Option.bind_some]
  exact te_l0 l hf q hq K hK ((trn l).take q).length 0 k 0 0 (by omega) (by omega) (by simp) (by simp)
end Go.Proofs.Ytjcaflhlilckgaa.QA
