import Derived.Test.YtefippbcgdfnbaaGT3
import Derived.Lib.Hide
import Derived.Lib.Bytes
namespace Go.Proofs.Ytefippbcgdfnbaa.QA
open Go.RowKit Go.Proofs.YtefippbcgdfnbaaW.PrintWords Go.Proofs.YtefippbcgdfnbaaW.PrintLast Go.Proofs.YtefippbcgdfnbaaW.PrintMore
set_option linter.unusedVariables false
set_option linter.unusedSimpArgs false
/-! ### bytes that end too early -/
theorem get_cut {b c rest : List Int} (hb : Byt b) (hlen : b.length ≤ 281474976710656) {a u : Nat} (ha : a ≤ b.length) (hu : u < 2 ^ 64) (h : b.drop a ++ c = en u ++ rest) :
    (∃ r, b.drop a = en u ++ r ∧ r ++ c = rest) ∨ (∀ k, 12 ≤ k → vary_Get.f k b (a : Int) = some (0, 0, 5)) := by
  by_cases hl : (en u).length ≤ (b.drop a).length
  · refine .inl ⟨(b.drop a).drop (en u).length, ?_, ?_⟩
    · have h1 := congrArg (List.take (en u).length) h
      rw [List.take_append_of_le_length hl, List.take_left] at h1
      conv => lhs; rw [← List.take_append_drop (en u).length (b.drop a), h1]
    · have h1 := congrArg (List.drop (en u).length) h
      rw [List.drop_append_of_le_length hl, List.drop_left] at h1
      exact h1
  · obtain ⟨m, hm⟩ := Va.Cnt.exists u hu
    rw [en_eq hm] at h hl
    rw [Va.enc_length, List.length_drop] at hl
    have hm2 := hm.2.1
    refine .inr fun k hk => ?_
    obtain ⟨n, hn, hg⟩ := Va.get_in b (byt_rng hb) hlen a ha
    have hs : Va.Stop b a (b.length - a) := by
      refine ⟨by omega, fun j hj => ⟨by omega, ?_⟩, .inr (.inl (by omega))⟩
      have h1 : (b.drop a)[j]? = (Va.enc u m)[j]? := by
        have h2 := congrArg (fun l : List Int => l[j]?) h
        replace h2 : (b.drop a ++ c)[j]? = (Va.enc u m ++ rest)[j]? := h2
        rw [List.getElem?_append_left (by rw [List.length_drop]; omega), List.getElem?_append_left (by rw [Va.enc_length]; omega)] at h2
        exact h2
      rw [List.getElem?_drop, List.getElem?_eq_getElem (show a + j < b.length by omega), List.getElem?_eq_getElem (show j < (Va.enc u m).length by rw [Va.enc_length]; omega)] at h1
      have h3 := Va.enc_rd u m j (by omega)
      rw [rd_nat (by rw [Va.enc_length]; omega)] at h3
      rw [rd_nat (show a + j < b.length by omega), Option.some.inj h1, h3]
      unfold Va.byt
      rw [if_pos (by omega)]
      omega
    obtain rfl := hn.unique hs
    rw [hg k hk]
    unfold Va.getR
    rw [if_neg (by omega), if_pos (by omega)]
theorem one_short {b c data : List Int} (hb : Byt b) (hlen : b.length ≤ 281474976710656) {a u : Nat} (ha : a ≤ b.length) (hu : u < 2 ^ 64) {last left : Int} (h : b.drop a ++ c = en u ++ (en data.length ++ data)) (hc : c ≠ [])
    (h1 : data.length ≤ 65536) (h2 : (data.length : Int) ≤ left) (h3 : left ≤ 262144) : ∃ p : Nat, p ≤ b.length ∧ ∀ k, 12 ≤ k → trans_one.f k b (a : Int) last left = some (0, 0, [], (p : Int), 5) := by
  rcases get_cut hb hlen ha hu h with ⟨r1, h4, h5⟩ | hg
  · have hl4 := congrArg List.length h4
    rw [List.length_drop, List.length_append] at hl4
    have h' : b.drop (a + (en u).length) = r1 := by rw [← List.drop_drop, h4, List.drop_left]
    rw [← h'] at h5
    rcases get_cut hb hlen (show a + (en u).length ≤ b.length by omega) (show data.length < 2 ^ 64 by omega) h5 with ⟨r2, h6, h7⟩ | hg
    · have hl6 := congrArg List.length h6
      have hl7 := congrArg List.length h7
      have hcl : c.length ≠ 0 := fun h => hc (List.eq_nil_of_length_eq_zero h)
      rw [List.length_drop, List.length_append] at hl6
      rw [List.length_append] at hl7
      refine ⟨b.length, Nat.le_refl _, fun k hk => ?_⟩
      have hmn : ((data.length : Nat) : Int) ≤ mn left 65536 ∧ mn left 65536 ≤ 65536 := by unfold mn; split <;> omega
      have e2 := en_len data.length (by omega)
      unfold trans_one.f
      rw [get_back hb hlen hu h4 hk]
      simp only [Option.bind_some, if_true]
      rw [get_back hb hlen (by omega) h6 hk]
      simp only [Option.bind_some, if_true]
      rw [show IntKind.u64.wrap (mn left 65536) = mn left 65536 by rw [Va.wrapU64]; omega, if_neg (by omega), show wrap64 ((data.length : Nat) : Int) = (data.length : Int) from w64 (by omega) (by omega),
        show wrap64 ((b.length : Int) - ((a + (en u).length + (en data.length).length : Nat) : Int)) = (b.length : Int) - ((a + (en u).length + (en data.length).length : Nat) : Int) from w64 (by omega) (by omega), if_pos (by omega)]
    · refine ⟨a + (en u).length, by omega, fun k hk => ?_⟩
      unfold trans_one.f
      rw [get_back hb hlen hu h4 hk]
      simp only [Option.bind_some, if_true]
      rw [hg k hk]
      simp only [Option.bind_some]
      rw [if_neg (by decide)]
  · refine ⟨a, ha, fun k hk => ?_⟩
    unfold trans_one.f
    rw [hg k hk]
    simp only [Option.bind_some]
    rw [if_neg (by decide)]
theorem dec_cut {b r : List Int} (hb : Byt b) (hlen : b.length ≤ 281474976710656) (l : List S43) : ∀ (a k : Nat) (last left : Int) (acc : List S43), b.drop a ++ r = evs last l → a ≤ b.length → 3 * l.length + 20 ≤ k → acc.length + l.length ≤ 4096 → (∀ x ∈ l, Ok1 x ∧ I64 x.f1) → (tot l : Int) ≤ left → left ≤ 262144 →
    (∃ i, i ≤ l.length ∧ b.drop a = evs last (l.take i)) ∨ (∃ p : Nat, p ≤ b.length ∧ trans_Decode.l1 k b (a : Int) last left 0 acc false = some ([], false, (p : Int), 5)) := by
  induction l with
  | nil =>
    intro a k last left acc h _ _ _ _ _ _
    exact .inl ⟨0, Nat.le_refl _, (List.append_eq_nil_iff.1 h).1⟩
  | cons x t ih =>
    intro a k last left acc h ha hk hn hok ht h3
    rw [evs] at h
    rw [tot_cons] at ht
    simp only [List.length_cons] at hk hn
    obtain ⟨k, rfl⟩ : ∃ m, k = m + 3 := ⟨k - 3, by omega⟩
    have hx := hok x (List.mem_cons_self ..)
    by_cases hl : (evb last x).length ≤ (b.drop a).length
    · have h1 := congrArg (List.take (evb last x).length) h
      rw [List.take_append_of_le_length hl, List.take_left] at h1
      have h2 : b.drop a = evb last x ++ b.drop (a + (evb last x).length) := by
        conv => lhs; rw [← List.take_append_drop (evb last x).length (b.drop a), h1, List.drop_drop]
      obtain ⟨_, hr⟩ := l1_ev (acc := acc) hb hlen h2 hx (by omega) (show (x.f2.length : Int) ≤ left by omega) h3 (show 12 ≤ k by omega)
      rw [List.length_drop] at hl
      have h4 : b.drop (a + (evb last x).length) ++ r = evs x.f1 t := by
        rw [h2, List.append_assoc] at h
        exact List.append_cancel_left h
      rcases ih (a + (evb last x).length) k x.f1 (left - (x.f2.length : Int)) (acc ++ [x]) h4 (by have := evb_len last x hx.1.2; omega) (by omega) (by rw [List.length_append, List.length_singleton]; omega) (fun y hy => hok y (List.mem_cons_of_mem _ hy)) (by omega) (by omega) with ⟨i, hi, he⟩ | ⟨p, hp, he⟩
      · refine .inl ⟨i + 1, by rw [List.length_cons]; omega, ?_⟩
        rw [List.take_succ_cons, evs, ← he]
        exact h2
      · exact .inr ⟨p, hp, hr.trans he⟩
    · by_cases h0 : b.drop a = []
      · exact .inl ⟨0, Nat.zero_le _, h0⟩
      · have hlt : a < b.length := by
          rcases Nat.lt_or_ge a b.length with h | h
          · exact h
          · exact absurd (List.drop_of_length_le h) h0
        have h1 := congrArg (List.take (evb last x).length) h
        rw [List.take_left, List.take_append] at h1
        rw [List.take_of_length_le (by omega)] at h1
        obtain ⟨c, hcd⟩ : ∃ c, c = List.take ((evb last x).length - (b.drop a).length) r := ⟨_, rfl⟩
        rw [← hcd] at h1
        have hc : c ≠ [] := fun hc => by
          rw [hc, List.append_nil] at h1
          rw [h1] at hl
          omega
        have h1' := h1
        unfold evb at h1
        rw [drop_cons hlt, List.cons_append] at h1
        injection h1 with ht1 hd1
        have hz := zg_lt (wrap_i64 (x.f1 - last))
        obtain ⟨p, hp, hg⟩ := one_short hb hlen (show a + 1 ≤ b.length by omega) hz (last := last) hd1 hc hx.1.2 (show (x.f2.length : Int) ≤ left by omega) h3
        have hf := hx.1.1
        refine .inr ⟨p, hp, ?_⟩
        rw [l1_tag hb hlen hlt (by omega) (by omega), if_neg (by omega), hg k (by omega)]
        simp only [Option.bind_some]
        rw [if_neg (by decide)]
theorem trn_take (l : List S43) (i : Nat) : ∃ s, trn l false = trn (l.take i) false ++ s := by
  have key : ∀ (l : List S43) (i : Nat) (last : Int), ∃ s, evs last l = evs last (l.take i) ++ s := by
    intro l
    induction l with
    | nil => intro i last; exact ⟨[], by simp [evs]⟩
    | cons x t ih =>
      intro i last
      cases i with
      | zero => exact ⟨evs last (x :: t), by simp [evs]⟩
      | succ i =>
        obtain ⟨s, hs⟩ := ih i x.f1
        exact ⟨s, by rw [List.take_succ_cons, evs, evs, hs, List.append_assoc]⟩
  obtain ⟨s, hs⟩ := key l i 0
  refine ⟨s, ?_⟩
  rw [trn_eq, trn_eq, hs]
  simp [fin]
theorem good_take {l : List S43} (g : Good l) (i : Nat) : Good (l.take i) := by
  refine ⟨by rw [List.length_take]; exact Nat.le_trans (Nat.min_le_right _ _) g.1, fun x hx => g.2.1 x (List.mem_of_mem_take hx), ?_⟩
  have e : tot l = tot (l.take i) + tot (l.drop i) := by
    unfold tot
    rw [← List.sum_append, ← List.map_append, List.take_append_drop]
  have := g.2.2
  omega
/-- a beginning of a transcript's bytes: its events, or an end too early -/
theorem dec_prefix {l : List S43} (g : Good l) (hin : ∀ x ∈ l, In1 x) {q : Nat} (hq : q ≤ (trn l false).length) {k : Nat} (hk : 8 * 1048576 ≤ k) :
    (∃ i, i ≤ l.length ∧ (trn l false).take q = trn (l.take i) false) ∨ (∃ p : Nat, p ≤ q ∧ trans_Decode.f k ((trn l false).take q) = some ([], false, (p : Int), 5)) := by
  have hn := trn_len g false
  have hb0 := byt_trn g.2.1 (fun x hx => (hin x hx).2) false
  have hb : Byt ((trn l false).take q) := fun c hc => hb0 c (List.mem_of_mem_take hc)
  have hlq : ((trn l false).take q).length = q := by rw [List.length_take]; omega
  have hpre : (trn l false).take q ++ (trn l false).drop q = [67, 85, 69, 49] ++ evs 0 l := by rw [List.take_append_drop, trn_eq]; simp [fin]
  generalize (trn l false).drop q = r at hpre
  generalize (trn l false).take q = b at hb hlq hpre ⊢
  have hg1 := g.1
  rcases dec_l0 (b := b) 4 0 k (by omega) (by omega) (by omega) rfl with ⟨s, hs, h⟩ | ⟨p, e, he, hp, _, hno, h⟩
  · have hd : b.drop 4 = s := by rw [hs]; rfl
    have hl4 := congrArg List.length hs
    simp only [List.length_append, List.length_cons, List.length_nil] at hl4
    have hpre2 : b.drop 4 ++ r = evs 0 l := by
      rw [hs, List.append_assoc] at hpre
      rw [hd]
      exact List.append_cancel_left hpre
    rcases dec_cut hb (by omega) l 4 (k - 4 - 1) 0 262144 [] hpre2 (by omega) (by omega) (by simpa using g.1) (fun x hx => ⟨g.2.1 x hx, (hin x hx).1⟩) (by have := g.2.2; omega) (by omega) with ⟨i, hi, h5⟩ | ⟨p, hp, h5⟩
    · refine .inl ⟨i, hi, ?_⟩
      rw [hs, trn_eq, ← hd, h5]
      simp [fin]
    · exact .inr ⟨p, by omega, h.trans h5⟩
  · rcases hno with ⟨rfl, rfl⟩ | hno
    · exact .inr ⟨_, by omega, h⟩
    · exact absurd ⟨r, hpre⟩ (hno _)
end Go.Proofs.Ytefippbcgdfnbaa.QA
