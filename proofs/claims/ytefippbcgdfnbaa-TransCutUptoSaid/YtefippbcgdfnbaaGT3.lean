import Derived.Test.YtefippbcgdfnbaaGT2
import Derived.Lib.Hide
import Derived.Lib.Bytes
namespace Go.Proofs.Ytefippbcgdfnbaa.QA
open Go.RowKit Go.Proofs.YtefippbcgdfnbaaW.PrintWords Go.Proofs.YtefippbcgdfnbaaW.PrintLast Go.Proofs.YtefippbcgdfnbaaW.PrintMore
set_option linter.unusedVariables false
set_option linter.unusedSimpArgs false
theorem ug_back {u : Nat} (h : u < 2 ^ 64) (last : Int) : wrap64 (wrap64 (last + ug u) - last) = ug u := by
  have := ug_i64 h
  unfold I64 at this
  unfold wrap64
  omega
theorem time_back {x last : Int} (h : I64 x) : wrap64 (last + wrap64 (x - last)) = x := by
  unfold I64 at h
  unfold wrap64
  omega
theorem l1_three {b : List Int} (hlen : b.length ≤ 281474976710656) {a : Nat} (h : a < b.length) (ht : b[a] = 3) {last left : Int} {acc : List S43} (k : Nat) :
    trans_Decode.l1 (k + 2) b (a : Int) last left 0 acc false = if a + 1 = b.length then some (acc, true, 0, 0) else some ([], false, ((a + 1 : Nat) : Int), 4) := by
  rw [trans_Decode.l1, if_pos (by omega), if_pos (by omega), rd_nat h, if_pos ht, trans_Decode.j2, show wrap64 ((a : Int) + 1) = ((a + 1 : Nat) : Int) from (w64 (by omega) (by omega)).trans (by omega)]
  by_cases c : a + 1 = b.length
  · rw [if_pos c, if_pos (by rw [c]; simp), if_pos rfl]
  · rw [if_neg c, if_neg (by simpa using (show ¬ ((a : Int) + 1 = (b.length : Int)) by omega)), if_pos ht, if_neg (by decide)]
theorem l1_other {b : List Int} {a : Nat} (h : a < b.length) (h3 : b[a] ≠ 3) (h1 : b[a] ≠ 1) (h2 : b[a] ≠ 2) {last left : Int} {acc : List S43} (k : Nat) :
    trans_Decode.l1 (k + 3) b (a : Int) last left 0 acc false = some ([], false, (a : Int), 4) := by
  rw [trans_Decode.l1, if_pos (by omega), if_pos (by omega), rd_nat h, if_neg h3, trans_Decode.j2, if_neg (by decide), if_neg h3, if_neg h1, show (b[a] != 2) = true by simpa using h2, trans_Decode.j3, if_pos rfl, if_neg (by decide)]
/-- Decode behind the magic: it tells events, or an error at a place -/
theorem dec_l1 {b : List Int} (hb : Byt b) (hlen : b.length ≤ 281474976710656) (d : Nat) : ∀ (a k : Nat) (last left : Int) (acc : List S43), a + d = b.length → 3 * d + 20 ≤ k → acc.length ≤ 4096 → 0 ≤ left → left ≤ 262144 →
    (∃ l f, Told last left acc.length (b.drop a) l f ∧ trans_Decode.l1 k b (a : Int) last left 0 acc false = some (acc ++ l, f, 0, 0)) ∨
    (∃ (p : Nat) (e : Int), e ≠ 0 ∧ p ≤ b.length ∧ trans_Decode.l1 k b (a : Int) last left 0 acc false = some ([], false, (p : Int), e)) := by
  induction d using Nat.strongRecOn with
  | _ d ih =>
  intro a k last left acc hd hk hacc h0 h1
  by_cases hend : d = 0
  · subst hend
    obtain rfl : a = b.length := by omega
    exact .inl ⟨[], false, ⟨by simp [evs, fin], by simp, by simpa using hacc, by simpa [tot] using h0⟩, by rw [l1_end (by omega)]; simp⟩
  have hlt : a < b.length := by omega
  by_cases h3 : b[a] = 3
  · obtain ⟨k, rfl⟩ : ∃ m, k = m + 2 := ⟨k - 2, by omega⟩
    rw [l1_three hlen hlt h3]
    by_cases c : a + 1 = b.length
    · refine .inl ⟨[], true, ⟨?_, by simp, by simpa using hacc, by simpa [tot] using h0⟩, by rw [if_pos c]; simp⟩
      rw [drop_cons hlt, h3, List.drop_of_length_le (by omega)]
      rfl
    · exact .inr ⟨a + 1, 4, by decide, by omega, if_neg c⟩
  obtain ⟨k, rfl⟩ : ∃ m, k = m + 3 := ⟨k - 3, by omega⟩
  by_cases ht : b[a] = 1 ∨ b[a] = 2
  · rw [l1_tag hb hlen hlt ht hacc]
    by_cases c : acc.length = 4096
    · exact .inr ⟨a, 10, by decide, by omega, by rw [if_pos c]⟩
    rw [if_neg c]
    rcases one_spec hb hlen (show a + 1 ≤ b.length by omega) (last := last) h0 h1 with ⟨p, e, he, hp1, hp2, hg⟩ | ⟨u, data, rest, hu, hdrop, hdl, hdl2⟩
    · rw [hg k (by omega)]
      simp only [Option.bind_some]
      rw [if_neg he]
      exact .inr ⟨p, e, he, hp2, rfl⟩
    · rw [one_back hb hlen hu hdrop hdl hdl2 h1 (by omega)]
      simp only [Option.bind_some, if_true]
      have e1 := en_len u hu
      have e2 := en_len data.length (by omega)
      have hl := congrArg List.length hdrop
      simp only [List.length_drop, List.length_append] at hl
      have hrest : rest = b.drop (a + 1 + (en u).length + (en data.length).length + data.length) := by
        rw [← List.drop_drop, ← List.drop_drop, ← List.drop_drop, hdrop, List.drop_left, List.drop_left, List.drop_left]
      rw [show wrap64 (left - (data.length : Int)) = left - (data.length : Int) from w64 (by omega) (by omega)]
      generalize hnx : a + 1 + (en u).length + (en data.length).length + data.length = next at hrest ⊢
      rcases ih (b.length - next) (by omega) next k (wrap64 (last + ug u)) (left - data.length) (acc ++ [(⟨b[a] - 1, wrap64 (last + ug u), data⟩ : S43)]) (by omega) (by omega) (by simp; omega) (by omega) (by omega) with ⟨l, f, ⟨hs, hok, hn, htt⟩, hr⟩ | ⟨p, e, he, hp, hr⟩
      · refine .inl ⟨⟨b[a] - 1, wrap64 (last + ug u), data⟩ :: l, f, ⟨?_, ?_, ?_, ?_⟩, by rw [hr]; simp⟩
        · rw [drop_cons hlt, hdrop, hrest, hs, evs, evb]
          simp only [ug_back hu, zg_ug]
          rw [show 1 + (b[a] - 1) = b[a] by omega]
          simp
        · intro x hx
          rcases List.mem_cons.1 hx with rfl | hx
          · exact ⟨⟨by show b[a] - 1 = 0 ∨ b[a] - 1 = 1; omega, hdl⟩, wrap_i64 _⟩
          · exact hok x hx
        · simp only [List.length_append, List.length_cons, List.length_nil] at hn ⊢
          omega
        · rw [tot_cons]
          simp only
          omega
      · exact .inr ⟨p, e, he, hp, hr⟩
  · exact .inr ⟨a, 4, by decide, by omega, l1_other hlt h3 (by omega) (by omega) k⟩
theorem tag_of {b s : List Int} {a : Nat} {last : Int} {x : S43} (h : b.drop a = evb last x ++ s) : ∃ h : a < b.length, b[a] = 1 + x.f0 ∧ b.drop (a + 1) = en (zg (wrap64 (x.f1 - last))) ++ (en x.f2.length ++ (x.f2 ++ s)) := by
  have hl := congrArg List.length h
  unfold evb at hl h
  simp only [List.length_drop, List.length_append, List.length_cons] at hl
  have hlt : a < b.length := by omega
  rw [drop_cons hlt] at h
  simp only [List.cons_append, List.append_assoc] at h
  injection h with h1 h2
  exact ⟨hlt, h1, h2⟩
/-- the round at an event that stands there whole -/
theorem l1_ev {b s : List Int} (hb : Byt b) (hlen : b.length ≤ 281474976710656) {a : Nat} {last left : Int} {acc : List S43} {x : S43} (h : b.drop a = evb last x ++ s) (hx : Ok1 x ∧ I64 x.f1) (hacc : acc.length < 4096) (h2 : (x.f2.length : Int) ≤ left) (h3 : left ≤ 262144) {k : Nat} (hk : 12 ≤ k) :
    b.drop (a + (evb last x).length) = s ∧ trans_Decode.l1 (k + 3) b (a : Int) last left 0 acc false = trans_Decode.l1 k b ((a + (evb last x).length : Nat) : Int) x.f1 (left - (x.f2.length : Int)) 0 (acc ++ [x]) false := by
  have hs : b.drop (a + (evb last x).length) = s := by rw [← List.drop_drop, h, List.drop_left]
  obtain ⟨hlt, ht, hd⟩ := tag_of h
  have hz := zg_lt (wrap_i64 (x.f1 - last))
  have e1 := en_len _ hz
  have e2 := en_len x.f2.length (by have := hx.1.2; omega)
  have hn := hx.1.2
  have hf := hx.1.1
  refine ⟨hs, ?_⟩
  rw [l1_tag hb hlen hlt (by omega) (by omega), if_neg (by omega), one_back hb hlen hz hd hx.1.2 h2 h3 hk]
  simp only [Option.bind_some, if_true]
  rw [ug_zg, time_back hx.2, show wrap64 (left - (x.f2.length : Int)) = left - (x.f2.length : Int) from w64 (by omega) (by omega), ht, show 1 + x.f0 - 1 = x.f0 by omega]
  congr 1
  unfold evb
  simp only [List.length_append, List.length_cons]
  omega
/-- Decode, out of what was encoded -/
theorem dec_back {b : List Int} (hb : Byt b) (hlen : b.length ≤ 281474976710656) (f : Bool) (l : List S43) : ∀ (a k : Nat) (last left : Int) (acc : List S43), b.drop a = evs last l ++ fin f → a ≤ b.length → 3 * l.length + 20 ≤ k → acc.length + l.length ≤ 4096 → (∀ x ∈ l, Ok1 x ∧ I64 x.f1) → (tot l : Int) ≤ left → left ≤ 262144 →
    trans_Decode.l1 k b (a : Int) last left 0 acc false = some (acc ++ l, f, 0, 0) := by
  induction l with
  | nil =>
    intro a k last left acc h ha hk _ _ _ _
    simp only [evs, List.nil_append] at h
    have hl := congrArg List.length h
    rw [List.length_drop] at hl
    cases f with
    | false =>
      obtain rfl : a = b.length := by simp [fin] at hl; omega
      rw [l1_end (by omega)]
      simp
    | true =>
      have hl' : b.length - a = 1 := hl
      have hlt : a < b.length := by omega
      obtain ⟨k, rfl⟩ : ∃ m, k = m + 2 := ⟨k - 2, by omega⟩
      have h3 : b[a] = 3 := by
        rw [drop_cons hlt] at h
        injection h
      rw [l1_three hlen hlt h3, if_pos (by omega)]
      simp
  | cons x r ih =>
    intro a k last left acc h ha hk hn hok ht h3
    rw [evs, List.append_assoc] at h
    rw [tot_cons] at ht
    simp only [List.length_cons] at hk hn
    obtain ⟨k, rfl⟩ : ∃ m, k = m + 3 := ⟨k - 3, by omega⟩
    obtain ⟨hs, hr⟩ := l1_ev (acc := acc) hb hlen h (hok x (List.mem_cons_self ..)) (by omega) (show (x.f2.length : Int) ≤ left by omega) h3 (show 12 ≤ k by omega)
    have hle : a + (evb last x).length ≤ b.length := by
      have hl := congrArg List.length h
      simp only [List.length_drop, List.length_append] at hl
      have := evb_len last x (hok x (List.mem_cons_self ..)).1.2
      omega
    rw [hr, ih _ k _ _ (acc ++ [x]) hs hle (by omega) (by rw [List.length_append, List.length_singleton]; omega) (fun y hy => hok y (List.mem_cons_of_mem _ hy)) (by omega) (by omega)]
    simp
theorem magic_bt (i : Nat) (h : i < 4) : bt (⟨#[67, 85, 69, 49]⟩ : ByteArray) (i : Int) = ([67, 85, 69, 49] : List Int)[i] := by
  match i, h with
  | 0, _ => rfl
  | 1, _ => rfl
  | 2, _ => rfl
  | 3, _ => rfl
/-- the magic's loop -/
theorem dec_l0 {b : List Int} (d : Nat) : ∀ (i k : Nat), i + d = 4 → d + 1 ≤ k → i ≤ b.length → b.take i = ([67, 85, 69, 49] : List Int).take i →
    (∃ r, b = [67, 85, 69, 49] ++ r ∧ trans_Decode.l0 k b (i : Int) = trans_Decode.l1 (k - d - 1) b 4 0 262144 0 [] false) ∨
    (∃ (p : Nat) (e : Int), e ≠ 0 ∧ p ≤ b.length ∧ (∀ r, b ≠ [67, 85, 69, 49] ++ r) ∧ (e = 5 ∧ p = b.length ∨ ∀ s, ¬ b <+: [67, 85, 69, 49] ++ s) ∧ trans_Decode.l0 k b (i : Int) = some ([], false, (p : Int), e)) := by
  induction d with
  | zero =>
    intro i k hi hk hle ht
    obtain rfl : i = 4 := by omega
    obtain ⟨k, rfl⟩ : ∃ m, k = m + 1 := ⟨k - 1, by omega⟩
    refine .inl ⟨b.drop 4, ?_, ?_⟩
    · conv => lhs; rw [← List.take_append_drop 4 b, ht]
      rfl
    · rw [trans_Decode.l0, if_neg (by omega)]
      rfl
  | succ d ih =>
    intro i k hi hk hle ht
    obtain ⟨k, rfl⟩ : ∃ m, k = m + 1 := ⟨k - 1, by omega⟩
    rw [trans_Decode.l0, if_pos (by omega)]
    by_cases c : i = b.length
    · refine .inr ⟨i, 5, by decide, hle, fun r hr => ?_, .inl ⟨rfl, c⟩, by rw [if_pos (by omega)]⟩
      have := congrArg List.length hr
      simp only [List.length_append, List.length_cons, List.length_nil] at this
      omega
    · have hlt : i < b.length := by omega
      rw [if_neg (by omega), if_pos (by omega), if_pos (by omega), rd_nat hlt, magic_bt i (by omega)]
      by_cases c2 : b[i] = ([67, 85, 69, 49] : List Int)[i]'(by show i < 4; omega)
      · rw [if_pos c2, show wrap64 ((i : Int) + 1) = ((i + 1 : Nat) : Int) from (w64 (by omega) (by omega)).trans (by omega)]
        have ht' : b.take (i + 1) = ([67, 85, 69, 49] : List Int).take (i + 1) := by
          rw [List.take_succ_eq_append_getElem hlt, List.take_succ_eq_append_getElem (show i < ([67, 85, 69, 49] : List Int).length by show i < 4; omega), ht, c2]
        rcases ih (i + 1) k (by omega) (by omega) (by omega) ht' with ⟨r, h1, h2⟩ | h
        · refine .inl ⟨r, h1, h2.trans ?_⟩
          rw [show k + 1 - (d + 1) - 1 = k - d - 1 by omega]
        · exact .inr h
      · have hno : ∀ s, ¬ b <+: ([67, 85, 69, 49] : List Int) ++ s := fun s hs => by
          apply c2
          have h1 := hs.getElem hlt
          rw [h1, List.getElem_append_left (show i < ([67, 85, 69, 49] : List Int).length by show i < 4; omega)]
        refine .inr ⟨i, 4, by decide, by omega, fun r hr => hno r (hr ▸ List.prefix_refl _), .inr hno, by rw [if_neg c2]⟩
theorem trn_eq (l : List S43) (f : Bool) : trn l f = [67, 85, 69, 49] ++ (evs 0 l ++ fin f) := rfl
/-- Decode: the transcript whose bytes these are, or an error at a place -/
theorem dec_spec {b : List Int} (hb : Byt b) (hlen : b.length ≤ 281474976710656) {k : Nat} (hk : 3 * b.length + 40 ≤ k) :
    (∃ l f, Good l ∧ (∀ x ∈ l, I64 x.f1) ∧ b = trn l f ∧ trans_Decode.f k b = some (l, f, 0, 0)) ∨
    (∃ (p : Nat) (e : Int), e ≠ 0 ∧ p ≤ b.length ∧ trans_Decode.f k b = some ([], false, (p : Int), e)) := by
  rcases dec_l0 (b := b) 4 0 k (by omega) (by omega) (by omega) rfl with ⟨r, hr, h⟩ | ⟨p, e, he, hp, _, _, h⟩
  · have hl := congrArg List.length hr
    simp only [List.length_append, List.length_cons, List.length_nil] at hl
    have hd : b.drop 4 = r := by rw [hr]; rfl
    rcases dec_l1 hb hlen r.length 4 (k - 4 - 1) 0 262144 [] (by omega) (by omega) (by simp) (by omega) (by omega) with ⟨l, f, ⟨h1, h2, h3, h4⟩, h5⟩ | ⟨p, e, he, hp, h5⟩
    · refine .inl ⟨l, f, ⟨by simpa using h3, fun x hx => (h2 x hx).1, by omega⟩, fun x hx => (h2 x hx).2, ?_, h.trans h5⟩
      rw [trn_eq, ← h1, hd]
      exact hr
    · exact .inr ⟨p, e, he, hp, h.trans h5⟩
  · exact .inr ⟨p, e, he, hp, h⟩
theorem byt_evb {last : Int} {x : S43} (h : Ok1 x) (hd : ∀ c ∈ x.f2, 0 ≤ c ∧ c < 256) : Byt (evb last x) := by
  intro c hc
  unfold evb at hc
  rcases List.mem_cons.1 hc with rfl | hc
  · have := h.1; omega
  · rcases List.mem_append.1 hc with hc | hc
    · exact en_rng _ c hc
    · rcases List.mem_append.1 hc with hc | hc
      · exact en_rng _ c hc
      · exact hd c hc
theorem byt_evs (l : List S43) : ∀ last, (∀ x ∈ l, Ok1 x) → (∀ x ∈ l, ∀ c ∈ x.f2, 0 ≤ c ∧ c < 256) → Byt (evs last l) := by
  induction l with
  | nil => intro _ _ _ c hc; cases hc
  | cons x r ih =>
    intro last h hd c hc
    rw [evs] at hc
    rcases List.mem_append.1 hc with hc | hc
    · exact byt_evb (h x (List.mem_cons_self ..)) (hd x (List.mem_cons_self ..)) c hc
    · exact ih x.f1 (fun y hy => h y (List.mem_cons_of_mem _ hy)) (fun y hy => hd y (List.mem_cons_of_mem _ hy)) c hc
theorem byt_trn {l : List S43} (h : ∀ x ∈ l, Ok1 x) (hd : ∀ x ∈ l, ∀ c ∈ x.f2, 0 ≤ c ∧ c < 256) (f : Bool) : Byt (trn l f) := by
  intro c hc
  rw [trn_eq] at hc
  rcases List.mem_append.1 hc with hc | hc
  · simp at hc; omega
  · rcases List.mem_append.1 hc with hc | hc
    · exact byt_evs l 0 h hd c hc
    · unfold fin at hc
      split at hc <;> simp at hc
      omega
/-- an event as it comes in -/
def In1 (x : S43) : Prop := I64 x.f1 ∧ ∀ c ∈ x.f2, 0 ≤ c ∧ c < 256
theorem dec_trn {l : List S43} (g : Good l) (hin : ∀ x ∈ l, In1 x) (f : Bool) {k : Nat} (hk : 3 * (trn l f).length + 40 ≤ k) : trans_Decode.f k (trn l f) = some (l, f, 0, 0) := by
  have hb := byt_trn g.2.1 (fun x hx => (hin x hx).2) f
  have hlen := trn_len g f
  rcases dec_l0 (b := trn l f) 4 0 k (by omega) (by omega) (by omega) rfl with ⟨r, hr, h⟩ | ⟨p, e, he, hp, hno, _⟩
  · have hd : (trn l f).drop 4 = evs 0 l ++ fin f := rfl
    have hel := g.1
    have e3 : ∀ (m : List S43) last, (∀ x ∈ m, Ok1 x) → 3 * m.length ≤ (evs last m).length := by
      intro m
      induction m with
      | nil => intro _ _; simp
      | cons x r ih =>
        intro last hm
        have h1 := (evb_len last x (hm x (List.mem_cons_self ..)).2).1
        have h2 := ih x.f1 (fun y hy => hm y (List.mem_cons_of_mem _ hy))
        rw [evs, List.length_append, List.length_cons]
        omega
    have h3 := e3 l 0 g.2.1
    have hl4 : (trn l f).length = 4 + ((evs 0 l).length + (fin f).length) := by
      rw [trn_eq]; simp only [List.length_append, List.length_cons, List.length_nil]
    exact h.trans (dec_back hb (by omega) f l 4 (k - 4 - 1) 0 262144 [] hd (by omega) (by omega) (by simpa using g.1) (fun x hx => ⟨g.2.1 x hx, (hin x hx).1⟩) (by have := g.2.2; omega) (by omega))
  · exact absurd (trn_eq l f) (hno _)
theorem byt_inj : ∀ {a b : List Int}, Byt a → Byt b → (strOfNums a).toList = (strOfNums b).toList → a = b := by
  intro a
  induction a with
  | nil =>
    intro b _ _ h
    rw [Go.Lib.strOfNums_toList, Go.Lib.strOfNums_toList] at h
    cases b with
    | nil => rfl
    | cons y b => simp [Go.Lib.bytesOf] at h
  | cons x a ih =>
    intro b ha hb h
    rw [Go.Lib.strOfNums_toList, Go.Lib.strOfNums_toList] at h
    cases b with
    | nil => simp [Go.Lib.bytesOf] at h
    | cons y b =>
      simp only [Go.Lib.bytesOf, List.map_cons, List.cons.injEq] at h
      have hx := ha x (by simp)
      have hy := hb y (by simp)
      have h1 := congrArg UInt8.toNat h.1
      have e1 : x = y := by
        simp only [UInt8.toNat_ofNat'] at h1
        omega
      have e2 : a = b := ih (fun z hz => ha z (List.mem_cons_of_mem _ hz)) (fun z hz => hb z (List.mem_cons_of_mem _ hz)) (by rw [Go.Lib.strOfNums_toList, Go.Lib.strOfNums_toList]; exact h.2)
      rw [e1, e2]
theorem evEq_eq {x y : S43} (hx : Byt x.f2) (hy : Byt y.f2) (h : evEq x y = true) : x = y := by
  unfold evEq at h
  simp only [Bool.and_eq_true, beq_iff_eq] at h
  obtain ⟨h0, h1, h2⟩ := h
  have h3 := byt_inj hx hy h2
  cases x; cases y
  simp_all
theorem sameB_eq {l m : List S43} (hl : ∀ x ∈ l, Byt x.f2) (hm : ∀ x ∈ m, Byt x.f2) (h : sameB l m = true) : l = m := by
  unfold sameB at h
  simp only [Bool.and_eq_true, decide_eq_true_eq, List.all_eq_true] at h
  obtain ⟨h1, h2⟩ := h
  refine List.ext_getElem h1 fun i hi hj => ?_
  refine evEq_eq (hl _ (List.getElem_mem hi)) (hm _ (List.getElem_mem hj)) (h2 (l[i], m[i]) ?_)
  have : (l.zip m)[i]? = some (l[i], m[i]) := by simp [List.getElem?_zip_eq_some, hi, hj]
  exact List.mem_of_getElem? this
theorem small_of_good {l : List S43} (g : Good l) : small l := by
  have e : ∀ m : List S43, (m.map fun x => x.f2.length + 4).sum = tot m + 4 * m.length := by
    intro m
    induction m with
    | nil => simp [tot]
    | cons x r ih => rw [tot_cons, List.map_cons, List.sum_cons, ih, List.length_cons]; omega
  unfold small
  rw [e]
  have := g.1
  have := g.2.2
  omega
end Go.Proofs.Ytefippbcgdfnbaa.QA
