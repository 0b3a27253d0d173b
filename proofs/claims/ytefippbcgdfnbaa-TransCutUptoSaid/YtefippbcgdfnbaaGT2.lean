import Derived.Test.YtefippbcgdfnbaaGT1
import Derived.Test.YtefippbcgdfnbaaQAx12
import Derived.Lib.Hide
namespace Go.Proofs.Ytefippbcgdfnbaa.QA
open Go.RowKit Go.Proofs.YtefippbcgdfnbaaW.PrintWords Go.Proofs.YtefippbcgdfnbaaW.PrintLast Go.Proofs.YtefippbcgdfnbaaW.PrintMore
set_option linter.unusedVariables false
set_option linter.unusedSimpArgs false
/-! ### what Decode says -/
def Byt (l : List Int) : Prop := ∀ x ∈ l, 0 ≤ x ∧ x < 256
theorem rd_nat {b : List Int} {i : Nat} (h : i < b.length) : rd b (i : Int) = b[i] := by simp [rd, List.getD_eq_getElem?_getD, List.getElem?_eq_getElem h]
theorem byt_rng {b : List Int} (h : Byt b) : Va.Rng b := by
  intro i hi
  rw [rd_nat hi]
  exact h _ (List.getElem_mem hi)
/-- bytes at a place, as places and as lists -/
theorem enc_at {b : List Int} {a x m : Nat} (h : a + m ≤ b.length) (he : ∀ j, j < m → rd b ((a + j : Nat) : Int) = Va.byt x m j) : b.drop a = Va.enc x m ++ b.drop (a + m) := by
  rw [← List.take_append_drop m (b.drop a), List.drop_drop]
  congr 1
  refine List.ext_getElem (by rw [List.length_take, List.length_drop, Va.enc_length]; omega) fun j h1 h2 => ?_
  rw [Va.enc_length] at h2
  have := he j h2
  rw [rd_nat (by omega), ← Va.enc_rd x m j h2, rd_nat (by rw [Va.enc_length]; omega)] at this
  simpa using this
theorem at_enc {b rest : List Int} {a x m : Nat} (h : b.drop a = Va.enc x m ++ rest) (j : Nat) (hj : j < m) : rd b ((a + j : Nat) : Int) = Va.byt x m j := by
  rw [← Va.enc_rd x m j hj]
  have h1 : (b.drop a)[j]? = (Va.enc x m)[j]? := by rw [h, List.getElem?_append_left (by rw [Va.enc_length]; omega)]
  rw [List.getElem?_drop] at h1
  unfold rd
  rw [Int.toNat_natCast, Int.toNat_natCast, List.getD_eq_getElem?_getD, List.getD_eq_getElem?_getD, h1]
theorem w64 {x : Int} (h : -9223372036854775808 ≤ x) (h' : x ≤ 9223372036854775807) : wrap64 x = x := by unfold wrap64; omega
/-- Get, out of what stands there -/
theorem get_back {b rest : List Int} (hb : Byt b) (hlen : b.length ≤ 281474976710656) {a u : Nat} (hu : u < 2 ^ 64) (h : b.drop a = en u ++ rest) {k : Nat} (hk : 12 ≤ k) :
    vary_Get.f k b (a : Int) = some ((u : Int), ((a + (en u).length : Nat) : Int), 0) := by
  obtain ⟨m, hm⟩ := Va.Cnt.exists u hu
  rw [en_eq hm] at h ⊢
  have hl := congrArg List.length h
  rw [List.length_drop, List.length_append, Va.enc_length] at hl
  have h1 := hm.1
  rw [Va.enc_length]
  exact Va.get_enc u m hu hm b (byt_rng hb) hlen a (by omega) (at_enc h) k hk
/-- Get: a number that stands there, or an error -/
theorem get_spec {b : List Int} (hb : Byt b) (hlen : b.length ≤ 281474976710656) {a : Nat} (ha : a ≤ b.length) :
    (∃ e : Int, e ≠ 0 ∧ ∀ k, 12 ≤ k → vary_Get.f k b (a : Int) = some (0, 0, e)) ∨
    (∃ u rest, u < 2 ^ 64 ∧ b.drop a = en u ++ rest ∧ ∀ k, 12 ≤ k → vary_Get.f k b (a : Int) = some ((u : Int), ((a + (en u).length : Nat) : Int), 0)) := by
  obtain ⟨n, hs, hg⟩ := Va.get_in b (byt_rng hb) hlen a ha
  by_cases h10 : n = 10
  · refine .inl ⟨4, by decide, fun k hk => ?_⟩
    rw [hg k hk]; unfold Va.getR; rw [if_pos h10]
  · by_cases hl : a + n = b.length
    · refine .inl ⟨5, by decide, fun k hk => ?_⟩
      rw [hg k hk]; unfold Va.getR; rw [if_neg h10, if_pos hl]
    · by_cases hc : (rd b ((a + n : Nat) : Int) = 0 ∧ 0 < n) ∨ (1 < rd b ((a + n : Nat) : Int) ∧ n = 9)
      · refine .inl ⟨4, by decide, fun k hk => ?_⟩
        rw [hg k hk]; unfold Va.getR; rw [if_neg h10, if_neg hl, if_pos hc]
      · obtain ⟨h1, h2, h3, h4, h5⟩ := Va.get_good b (byt_rng hb) a n hs h10 hl hc
        have h6 := enc_at (by omega) h5
        rw [← en_eq h4] at h6
        exact .inr ⟨_, _, h3, h6, fun k hk => get_back hb hlen h3 h6 hk⟩
theorem cut_mid {b x y z : List Int} {a : Nat} (h : b.drop a = x ++ (y ++ z)) : (b.take (a + x.length + y.length)).drop (a + x.length) = y := by
  rw [List.drop_take, ← List.drop_drop, h, List.drop_left, show a + x.length + y.length - (a + x.length) = y.length by omega, List.take_left]
/-- an event that stands there -/
theorem one_back {b data rest : List Int} (hb : Byt b) (hlen : b.length ≤ 281474976710656) {a u : Nat} (hu : u < 2 ^ 64) {last left : Int} (h : b.drop a = en u ++ (en data.length ++ (data ++ rest)))
    (h1 : data.length ≤ 65536) (h2 : (data.length : Int) ≤ left) (h3 : left ≤ 262144) {k : Nat} (hk : 12 ≤ k) :
    trans_one.f k b (a : Int) last left = some (0, wrap64 (last + ug u), data, ((a + (en u).length + (en data.length).length + data.length : Nat) : Int), 0) := by
  have hd := congrArg List.length h
  simp only [List.length_drop, List.length_append] at hd
  have e1 := en_len u hu
  have e2 := en_len data.length (by omega)
  have h' : b.drop (a + (en u).length) = en data.length ++ (data ++ rest) := by rw [← List.drop_drop, h, List.drop_left]
  unfold trans_one.f
  rw [get_back hb hlen hu h hk]
  simp only [Option.bind_some, if_true]
  rw [get_back hb hlen (by omega) h' hk]
  simp only [Option.bind_some, if_true]
  have hmn : ((data.length : Nat) : Int) ≤ mn left 65536 ∧ mn left 65536 ≤ 65536 := by unfold mn; split <;> omega
  rw [show IntKind.u64.wrap (mn left 65536) = mn left 65536 by rw [Va.wrapU64]; omega, if_neg (by omega), show wrap64 ((data.length : Nat) : Int) = (data.length : Int) from w64 (by omega) (by omega),
    show wrap64 ((b.length : Int) - ((a + (en u).length + (en data.length).length : Nat) : Int)) = (b.length : Int) - ((a + (en u).length + (en data.length).length : Nat) : Int) from w64 (by omega) (by omega), if_neg (by omega),
    show wrap64 (((a + (en u).length + (en data.length).length : Nat) : Int) + (data.length : Int)) = ((a + (en u).length + (en data.length).length + data.length : Nat) : Int) from (w64 (by omega) (by omega)).trans (by omega), zag_ug hu]
  simp only [Option.bind_some, clock_Add.f]
  rw [if_pos (by omega), if_pos (by omega), if_pos (by omega), Int.toNat_natCast, Int.toNat_natCast, cut_mid h']
  unfold bytes_Clone.f
  rw [if_pos (by omega)]
  rfl
/-- an event, or where it is wrong -/
theorem one_spec {b : List Int} (hb : Byt b) (hlen : b.length ≤ 281474976710656) {a : Nat} (ha : a ≤ b.length) {last left : Int} (h2 : 0 ≤ left) (h3 : left ≤ 262144) :
    (∃ (p : Nat) (e : Int), e ≠ 0 ∧ a ≤ p ∧ p ≤ b.length ∧ ∀ k, 12 ≤ k → trans_one.f k b (a : Int) last left = some (0, 0, [], (p : Int), e)) ∨
    (∃ u data rest, u < 2 ^ 64 ∧ b.drop a = en u ++ (en data.length ++ (data ++ rest)) ∧ data.length ≤ 65536 ∧ (data.length : Int) ≤ left) := by
  rcases get_spec hb hlen ha with ⟨e, he, hg⟩ | ⟨u, r1, hu, h1, hg⟩
  · refine .inl ⟨a, e, he, Nat.le_refl _, ha, fun k hk => ?_⟩
    unfold trans_one.f
    rw [hg k hk]
    simp only [Option.bind_some]
    rw [if_neg he]
  · have e1 := en_len u hu
    have hd := congrArg List.length h1
    simp only [List.length_drop, List.length_append] at hd
    have h' : b.drop (a + (en u).length) = r1 := by rw [← List.drop_drop, h1, List.drop_left]
    rcases get_spec hb hlen (show a + (en u).length ≤ b.length by omega) with ⟨e, he, hg2⟩ | ⟨n, r2, hn, h4, hg2⟩
    · refine .inl ⟨a + (en u).length, e, he, by omega, by omega, fun k hk => ?_⟩
      unfold trans_one.f
      rw [hg k hk]
      simp only [Option.bind_some, if_true]
      rw [hg2 k hk]
      simp only [Option.bind_some]
      rw [if_neg he]
    · have e2 := en_len n hn
      have hd2 := congrArg List.length h4
      simp only [List.length_drop, List.length_append] at hd2
      have hmn : mn left 65536 ≤ 65536 ∧ 0 ≤ mn left 65536 ∧ mn left 65536 ≤ left := by unfold mn; split <;> omega
      have w4 := Lib.hid (show IntKind.u64.wrap (mn left 65536) = mn left 65536 by rw [Va.wrapU64]; omega)
      have w2 := Lib.hid (show wrap64 ((b.length : Int) - ((a + (en u).length + (en n).length : Nat) : Int)) = (b.length : Int) - ((a + (en u).length + (en n).length : Nat) : Int) from w64 (by omega) (by omega))
      by_cases c1 : (n : Int) > mn left 65536
      · refine .inl ⟨a + (en u).length, 6, by decide, by omega, by omega, fun k hk => ?_⟩
        unfold trans_one.f
        rw [hg k hk]
        simp only [Option.bind_some, if_true]
        rw [hg2 k hk]
        simp only [Option.bind_some, if_true]
        rw [w4.out, if_pos c1]
      · have w1 := Lib.hid (show wrap64 ((n : Nat) : Int) = (n : Int) from w64 (by omega) (by omega))
        by_cases c2 : (n : Int) > (b.length : Int) - ((a + (en u).length + (en n).length : Nat) : Int)
        · refine .inl ⟨b.length, 5, by decide, by omega, by omega, fun k hk => ?_⟩
          unfold trans_one.f
          rw [hg k hk]
          simp only [Option.bind_some, if_true]
          rw [hg2 k hk]
          simp only [Option.bind_some, if_true]
          rw [w4.out, if_neg c1, w1.out, w2.out, if_pos c2]
        · have hr : (r2.take n).length = n := by rw [List.length_take]; omega
          refine .inr ⟨u, r2.take n, r2.drop n, hu, ?_, by omega, by omega⟩
          rw [hr, List.take_append_drop, ← h4, h', h1]
theorem drop_cons {b : List Int} {a : Nat} (h : a < b.length) : b.drop a = b[a] :: b.drop (a + 1) := List.drop_eq_getElem_cons h
/-- what the events of a row of bytes are -/
def Told (last : Int) (left : Int) (n : Nat) (s : List Int) (l : List S43) (f : Bool) : Prop :=
  s = evs last l ++ fin f ∧ (∀ x ∈ l, Ok1 x ∧ I64 x.f1) ∧ n + l.length ≤ 4096 ∧ (tot l : Int) ≤ left
theorem l1_end {b : List Int} {last left : Int} {acc : List S43} {f : Bool} {k : Nat} (hk : 1 ≤ k) : trans_Decode.l1 k b (b.length : Int) last left 0 acc f = some (acc, f, 0, 0) := by
  obtain ⟨k, rfl⟩ : ∃ m, k = m + 1 := ⟨k - 1, by omega⟩
  rw [trans_Decode.l1, if_neg (by omega), if_pos rfl]
theorem byte_range {b : List Int} (hb : Byt b) {a : Nat} (h : a < b.length) : 0 ≤ b[a] ∧ b[a] < 256 := hb _ (List.getElem_mem h)
/-- the round at a tag of an event -/
theorem l1_tag {b : List Int} (hb : Byt b) (hlen : b.length ≤ 281474976710656) {a : Nat} (h : a < b.length) (ht : b[a] = 1 ∨ b[a] = 2) {last left : Int} {acc : List S43} (ha : acc.length ≤ 4096) (k : Nat) :
    trans_Decode.l1 (k + 3) b (a : Int) last left 0 acc false = (if acc.length = 4096 then some ([], false, (a : Int), 10) else (trans_one.f k b ((a + 1 : Nat) : Int) last left).bind fun t => (if t.2.2.2.2 = 0 then trans_Decode.l1 k b t.2.2.2.1 t.2.1 (wrap64 (left - (t.2.2.1.length : Int))) t.2.2.2.2 (acc ++ [(⟨b[a] - 1, t.2.1, t.2.2.1⟩ : S43)]) false else some ([], false, t.2.2.2.1, t.2.2.2.2))) := by
  have hw : wrap64 ((a : Int) + 1) = ((a + 1 : Nat) : Int) := by unfold wrap64; omega
  have hw2 : wrap64 (wrap64 b[a] - 1) = b[a] - 1 := by unfold wrap64; omega
  rw [trans_Decode.l1, if_pos (by omega), if_pos (by omega), rd_nat h, if_neg (by omega), trans_Decode.j2, if_neg (by decide), if_neg (by omega)]
  have hj : trans_Decode.j3 (k + 1) b (a : Int) last left b[a] false acc false = (if acc.length = 4096 then some ([], false, (a : Int), 10) else (trans_one.f k b ((a + 1 : Nat) : Int) last left).bind fun t => (if t.2.2.2.2 = 0 then trans_Decode.l1 k b t.2.2.2.1 t.2.1 (wrap64 (left - (t.2.2.1.length : Int))) t.2.2.2.2 (acc ++ [(⟨b[a] - 1, t.2.1, t.2.2.1⟩ : S43)]) false else some ([], false, t.2.2.2.1, t.2.2.2.2))) := by
    rw [trans_Decode.j3, if_neg (by decide)]
    by_cases c : acc.length = 4096
    · rw [if_pos (by omega), if_neg (by decide), if_pos c]
    · rw [if_neg (by omega), if_neg c, hw, hw2]
      congr 1
      funext t
      by_cases c2 : t.2.2.2.2 = 0
      · rw [if_pos c2, if_pos c2, if_pos (by omega)]
      · rw [if_neg c2, if_neg c2]
  rcases ht with ht | ht
  · rw [if_pos ht, hj]
  · rw [if_neg (by omega), show (b[a] != 2) = false by rw [ht]; rfl, hj]
end Go.Proofs.Ytefippbcgdfnbaa.QA
