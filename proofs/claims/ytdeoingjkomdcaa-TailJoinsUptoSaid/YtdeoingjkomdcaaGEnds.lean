import Derived.Lib.Bytes
import Derived.Laws.BytesArg
import Derived.KernelRfl
import Derived.Test.YtdeoingjkomdcaaGAlive
import Derived.Test.YtdeoingjkomdcaaQAx6
namespace Go.Proofs.Ytdeoingjkomdcaa.QA
open Go.RowKit Go.Proofs.YtdeoingjkomdcaaW.PrintWords Go.Proofs.YtdeoingjkomdcaaW.PrintLast Go.Proofs.YtdeoingjkomdcaaW.PrintMore
set_option linter.unusedVariables false
set_option linter.unusedSimpArgs false
/-! ### plain laws that the statements share -/
theorem wrapId {n : Int} (h : -9223372036854775808 ≤ n ∧ n ≤ 9223372036854775807) : wrap64 n = n := by unfold wrap64; omega
theorem wr1 {i : Nat} (h : i < 4611686018427387904) : wrap64 ((i : Int) + 1) = ((i + 1 : Nat) : Int) := by unfold wrap64; omega
theorem wrA {i j : Nat} (h : i + j < 4611686018427387904) : wrap64 ((i : Int) + (j : Int)) = ((i + j : Nat) : Int) := by unfold wrap64; omega
theorem wrS {i j : Nat} (h : i < 4611686018427387904) (hj : j ≤ i) : wrap64 ((i : Int) - (j : Int)) = ((i - j : Nat) : Int) := by unfold wrap64; omega
theorem rdN {l : List Int} {i : Nat} (h : i < l.length) : rd l (i : Int) = l[i] := by simp [rd, List.getD_eq_getElem?_getD, List.getElem?_eq_getElem h]
theorem rd_get {xs : List Int} {i : Nat} {b : Int} (h : xs[i]? = some b) : rd xs (i : Int) = b := by
  simp [rd, List.getD_eq_getElem?_getD, h]
/-- all things are bytes -/
def Byt (l : List Int) : Prop := ∀ x ∈ l, 0 ≤ x ∧ x < 256
theorem Byt.take {l : List Int} (h : Byt l) (n : Nat) : Byt (l.take n) := fun x hx => h x (List.mem_of_mem_take hx)
theorem Byt.drop {l : List Int} (h : Byt l) (n : Nat) : Byt (l.drop n) := fun x hx => h x (List.mem_of_mem_drop hx)
theorem byt_inj : ∀ {a b : List Int}, Byt a → Byt b → (strOfNums a).toList = (strOfNums b).toList → a = b := by
  intro a
  induction a with
  | nil =>
    intro b _ _ h
    rw [Go.Lib.strOfNums_toList, Go.Lib.strOfNums_toList] at h
    cases b with
    | nil => rfl
    | cons y b => simp [Go.Lib.bytesOf] at h
  | cons x a ih =>
    intro b ha hb h
    rw [Go.Lib.strOfNums_toList, Go.Lib.strOfNums_toList] at h
    cases b with
    | nil => simp [Go.Lib.bytesOf] at h
    | cons y b =>
      simp only [Go.Lib.bytesOf, List.map_cons, List.cons.injEq] at h
      have hx := ha x (by simp)
      have hy := hb y (by simp)
      have h1 := congrArg UInt8.toNat h.1
      have e1 : x = y := by
        simp only [UInt8.toNat_ofNat'] at h1
        omega
      have e2 : a = b := ih (fun z hz => ha z (List.mem_cons_of_mem _ hz)) (fun z hz => hb z (List.mem_cons_of_mem _ hz)) (by rw [Go.Lib.strOfNums_toList, Go.Lib.strOfNums_toList]; exact h.2)
      rw [e1, e2]
theorem str_eq {a b : List Int} (ha : Byt a) (hb : Byt b) : (strOfNums a).toList = (strOfNums b).toList ↔ a = b := ⟨byt_inj ha hb, fun h => by rw [h]⟩
theorem str_beq {a b : List Int} (ha : Byt a) (hb : Byt b) : ((strOfNums a).toList == (strOfNums b).toList) = decide (a = b) := by
  rw [Bool.eq_iff_iff, beq_iff_eq, str_eq ha hb, decide_eq_true_eq]
theorem cut_mid' (t : List Int) (i n : Nat) : (t.take (i + n)).drop i = (t.drop i).take n := by rw [List.drop_take, show i + n - i = n by omega]
/-- the things from place i on are the first ones, so many -/
def Mat (r : List Int) (i n : Nat) : Prop := i + n ≤ r.length ∧ ∀ j, j < n → r[j]? = r[i + j]?
theorem Mat.mono {r : List Int} {i n m : Nat} (h : Mat r i n) (hm : m ≤ n) : Mat r i m := ⟨by have := h.1; omega, fun j hj => h.2 j (by omega)⟩
theorem mat_succ {r : List Int} {i n : Nat} : Mat r i (n + 1) ↔ Mat r i n ∧ i + n < r.length ∧ r[n]? = r[i + n]? := by
  constructor
  · intro h
    exact ⟨h.mono (by omega), by have := h.1; omega, h.2 n (by omega)⟩
  · rintro ⟨h1, h2, h3⟩
    refine ⟨by omega, fun j hj => ?_⟩
    rcases Nat.lt_or_ge j n with h | h
    · exact h1.2 j h
    · obtain rfl : j = n := by omega
      exact h3
theorem mat_rev {t : List Int} {i n : Nat} (h : i + n ≤ t.length) : Mat t.reverse (t.length - n - i) n ↔ (t.drop i).take n = t.drop (t.length - n) := by
  constructor
  · rintro ⟨_, h2⟩
    refine List.ext_getElem? fun q => ?_
    rw [List.getElem?_take, List.getElem?_drop, List.getElem?_drop]
    by_cases hq : q < n
    · rw [if_pos hq]
      have := h2 (n - 1 - q) (by omega)
      rw [List.getElem?_reverse (by omega), List.getElem?_reverse (by omega)] at this
      rw [show t.length - 1 - (n - 1 - q) = t.length - n + q by omega, show t.length - 1 - (t.length - n - i + (n - 1 - q)) = i + q by omega] at this
      exact this.symm
    · rw [if_neg hq, List.getElem?_eq_none (by omega)]
  · intro h2
    refine ⟨by rw [List.length_reverse]; omega, fun j hj => ?_⟩
    have := congrArg (fun l => l[n - 1 - j]?) h2
    simp only [List.getElem?_take, List.getElem?_drop] at this
    rw [if_pos (by omega)] at this
    rw [List.getElem?_reverse (by omega), List.getElem?_reverse (by omega)]
    rw [show t.length - 1 - j = t.length - n + (n - 1 - j) by omega, show t.length - 1 - (t.length - n - i + j) = i + (n - 1 - j) by omega]
    exact this.symm
/-- how long the shortest end is that stands nowhere else -/
def IsShort (t : List Int) (n : Nat) : Prop := (t = [] ∧ n = 0) ∨ (1 ≤ n ∧ n ≤ t.length ∧ (∀ s, 1 ≤ s → ¬ Mat t.reverse s n) ∧ (n = 1 ∨ ∃ s, 1 ≤ s ∧ Mat t.reverse s (n - 1)))
theorem isShort_uniq {t : List Int} {n m : Nat} (h : IsShort t n) (h' : IsShort t m) : n = m := by
  rcases h with ⟨h1, h2⟩ | ⟨h1, h2, h3, h4⟩
  · rcases h' with ⟨_, h4⟩ | ⟨h3, h4, _⟩
    · omega
    · subst h1; simp at h4; omega
  · rcases h' with ⟨h5, h6⟩ | ⟨h5, h6, h7, h8⟩
    · subst h5; simp at h2; omega
    · rcases Nat.lt_trichotomy n m with h | h | h
      · rcases h8 with h8 | ⟨s, hs, hm⟩
        · omega
        · exact absurd (hm.mono (by omega)) (h3 s hs)
      · exact h
      · rcases h4 with h4 | ⟨s, hs, hm⟩
        · omega
        · exact absurd (hm.mono (by omega)) (h7 s hs)
/-! ### overlaps -/
theorem ov_l1 (r z0 : List Int) (hr : r.length ≤ 1048576) (hz : z0.length = r.length) {i : Nat} (hi1 : 1 ≤ i) (hi : i < r.length) (left right : Nat) (N : Nat) (R : Option (List Int))
    (hnext : ∀ k v, N ≤ k → Mat r i v → ¬ Mat r i (v + 1) → (if (i + v : Nat) > right then tail_overlaps.l0 k r (z0.set i (v : Int)) (i : Int) ((i + v : Nat) : Int) ((i + 1 : Nat) : Int) else tail_overlaps.l0 k r (z0.set i (v : Int)) (left : Int) (right : Int) ((i + 1 : Nat) : Int)) = R) :
    ∀ d v k : Nat, i + v + d = r.length → Mat r i v → N + d + 1 ≤ k → tail_overlaps.l1 k r (z0.set i (v : Int)) (left : Int) (right : Int) (i : Int) = R := by
  have fin : ∀ k v : Nat, N ≤ k → i + v ≤ r.length → Mat r i v → ¬ Mat r i (v + 1) → (if wrap64 ((i : Int) + (v : Int)) > (right : Int) then tail_overlaps.l0 k r (z0.set i (v : Int)) (i : Int) (wrap64 ((i : Int) + (v : Int))) (wrap64 ((i : Int) + 1)) else tail_overlaps.l0 k r (z0.set i (v : Int)) (left : Int) (right : Int) (wrap64 ((i : Int) + 1))) = R := by
    intro k v hk hv h1 h2
    have := hnext k v hk h1 h2
    rw [wrA (by omega), wr1 (by omega)]
    by_cases h : (i + v : Nat) > right
    · rw [if_pos (by omega)]; rw [if_pos h] at this; exact this
    · rw [if_neg (by omega)]; rw [if_neg h] at this; exact this
  intro d
  induction d with
  | zero =>
    intro v k hv hm hk
    obtain ⟨k, rfl⟩ : ∃ k', k = k' + 1 := ⟨k - 1, by omega⟩
    have hrd : rd (z0.set i (v : Int)) (i : Int) = (v : Int) := rd_get (by rw [List.getElem?_set_self (by omega)])
    rw [tail_overlaps.l1, if_pos (by omega), if_pos (by rw [List.length_set]; omega), hrd, if_neg (by rw [wrA (by omega)]; omega)]
    exact fin k v (by omega) (by omega) hm (fun h => by have := h.1; omega)
  | succ d ih =>
    intro v k hv hm hk
    obtain ⟨k, rfl⟩ : ∃ k', k = k' + 1 := ⟨k - 1, by omega⟩
    have hrd : rd (z0.set i (v : Int)) (i : Int) = (v : Int) := rd_get (by rw [List.getElem?_set_self (by omega)])
    have h1 : v < r.length := by omega
    have h2 : i + v < r.length := by omega
    rw [tail_overlaps.l1, if_pos (by omega), if_pos (by rw [List.length_set]; omega), hrd, if_pos (by rw [wrA (by omega)]; omega), if_pos (by omega), if_pos (by omega), if_pos (by rw [wrA (by omega)]; omega)]
    by_cases hx : r[v] = r[i + v]
    · rw [if_pos (by rw [wrA (by omega), rdN h1, rdN h2]; exact hx), wr1 (by omega), Int.toNat_natCast, List.set_set]
      exact ih (v + 1) k (by omega) (mat_succ.2 ⟨hm, h2, by rw [List.getElem?_eq_getElem h1, List.getElem?_eq_getElem h2, hx]⟩) (by omega)
    · rw [if_neg (by rw [wrA (by omega), rdN h1, rdN h2]; exact hx)]
      refine fin k v (by omega) (by omega) hm (fun h => hx ?_)
      have := (mat_succ.1 h).2.2
      rw [List.getElem?_eq_getElem h1, List.getElem?_eq_getElem h2] at this
      exact Option.some.inj this
def Lcp (r z : List Int) (n : Nat) : Prop := ∀ j, 1 ≤ j → j < n → ∃ v : Nat, z[j]? = some (v : Int) ∧ Mat r j v ∧ ¬ Mat r j (v + 1)
theorem ov_l0 (r : List Int) (hr : r.length ≤ 1048576) (R : Option (List Int)) (hR : ∀ z, z.length = r.length → z[0]? = some 0 → Lcp r z r.length → some z = R) :
    ∀ d i k : Nat, ∀ z : List Int, ∀ left right : Nat, i + d = r.length → 1 ≤ i → z.length = r.length → z[0]? = some 0 → Lcp r z i → (∀ j, i ≤ j → j < r.length → z[j]? = some 0) → (right = 0 ∨ (1 ≤ left ∧ left < i ∧ left ≤ right ∧ right ≤ r.length ∧ Mat r left (right - left))) →
      (r.length + 4) * d + 1 ≤ k → tail_overlaps.l0 k r z (left : Int) (right : Int) (i : Int) = R := by
  intro d
  induction d with
  | zero =>
    intro i k z left right hi hi1 hz h0 hl hzero hw hk
    obtain ⟨k, rfl⟩ : ∃ k', k = k' + 1 := ⟨k - 1, by omega⟩
    rw [tail_overlaps.l0, if_neg (by omega)]
    exact hR z hz h0 (by rw [show r.length = i by omega]; exact hl)
  | succ d ih =>
    intro i k z left right hi hi1 hz h0 hl hzero hw hk
    rw [Nat.mul_succ] at hk
    obtain ⟨k, rfl⟩ : ∃ k', k = k' + 1 + 1 := ⟨k - 2, by omega⟩
    have hil : i < r.length := by omega
    have key : ∀ v0 : Nat, Mat r i v0 → tail_overlaps.j1 (k + 1) r (z.set i (v0 : Int)) (left : Int) (right : Int) (i : Int) = R := by
      intro v0 hm0
      have hv0 := hm0.1
      rw [tail_overlaps.j1]
      refine ov_l1 r z hr hz hi1 hil left right ((r.length + 4) * d + 1) R (fun k v hk hm hnm => ?_) (r.length - i - v0) v0 k (by omega) hm0 (by omega)
      have hvl := hm.1
      have g0 : (z.set i (v : Int))[0]? = some 0 := by rw [List.getElem?_set_ne (by omega)]; exact h0
      have gl : Lcp r (z.set i (v : Int)) (i + 1) := by
        intro j j1 j2
        rcases Nat.lt_or_ge j i with h | h
        · rw [List.getElem?_set_ne (by omega)]; exact hl j j1 h
        · obtain rfl : j = i := by omega
          exact ⟨v, by rw [List.getElem?_set_self (by omega)], hm, hnm⟩
      have gz : ∀ j, i + 1 ≤ j → j < r.length → (z.set i (v : Int))[j]? = some 0 := fun j j1 j2 => by rw [List.getElem?_set_ne (by omega)]; exact hzero j (by omega) j2
      by_cases h : (i + v : Nat) > right
      · rw [if_pos h]
        exact ih (i + 1) k _ i (i + v) (by omega) (by omega) (by rw [List.length_set]; exact hz) g0 gl gz (.inr ⟨hi1, by omega, by omega, hvl, by rw [show i + v - i = v by omega]; exact hm⟩) hk
      · rw [if_neg h]
        refine ih (i + 1) k _ left right (by omega) (by omega) (by rw [List.length_set]; exact hz) g0 gl gz ?_ hk
        rcases hw with h | ⟨w1, w2, w3, w4, w5⟩
        · exact .inl h
        · exact .inr ⟨w1, by omega, w3, w4, w5⟩
    have hself : z.set i 0 = z := by
      refine List.ext_getElem? fun q => ?_
      by_cases hq : q = i
      · subst hq; rw [List.getElem?_set_self (by omega), hzero q (Nat.le_refl _) hil]
      · rw [List.getElem?_set_ne (by omega)]
    rw [tail_overlaps.l0, if_pos (by omega)]
    by_cases hir : i < right
    · rcases hw with h | ⟨w1, w2, w3, w4, w5⟩
      · omega
      · obtain ⟨v, e1, e2, e3⟩ := hl (i - left) (by omega) (by omega)
        rw [if_pos (by omega), wrS (by omega) (by omega), if_pos (by omega), if_pos (by omega), if_pos (by omega), if_pos (by omega), wrS (by omega) (by omega), rd_get e1, Int.toNat_natCast]
        have hmn : mn ((right - i : Nat) : Int) (v : Int) = ((min (right - i) v : Nat) : Int) := by
          unfold mn; split <;> omega
        rw [hmn]
        refine key _ ⟨by omega, fun j hj => ?_⟩
        rw [e2.2 j (by omega), w5.2 (i - left + j) (by omega), show left + (i - left + j) = i + j by omega]
    · rw [if_neg (by omega)]
      have := key 0 ⟨by omega, fun j hj => by omega⟩
      rw [show ((0 : Nat) : Int) = 0 from rfl, hself] at this
      exact this
theorem overlaps_ok (r : List Int) (hr : r.length ≤ 1048576) (h0 : 1 ≤ r.length) {k : Nat} (hk : (r.length + 4) * r.length + 1 ≤ k) : ∃ z, tail_overlaps.f k r = some z ∧ z.length = r.length ∧ z[0]? = some 0 ∧ Lcp r z r.length := by
  have key : ∀ R, (∀ z, z.length = r.length → z[0]? = some 0 → Lcp r z r.length → some z = R) → tail_overlaps.f k r = R := by
    intro R hR
    unfold tail_overlaps.f
    rw [if_pos (by omega), Int.toNat_natCast, if_pos (by omega)]
    have hm : (r.length + 4) * (r.length - 1) ≤ (r.length + 4) * r.length := Nat.mul_le_mul_left _ (by omega)
    exact ov_l0 r hr R hR (r.length - 1) 1 k (List.replicate r.length 0) 0 0 (by omega) (Nat.le_refl _) List.length_replicate (by rw [List.getElem?_replicate, if_pos (by omega)]) (fun j h1 h2 => by omega) (fun j h1 h2 => by rw [List.getElem?_replicate, if_pos h2]) (.inl rfl) (by omega)
  cases hx : tail_overlaps.f k r with
  | none =>
    exfalso
    have := key (some [0, 0]) 
    have h1 := key (some []) 
    have hz : ∀ R : Option (List Int), (∀ z, z.length = r.length → z[0]? = some 0 → Lcp r z r.length → some z = R) → R = none := fun R h => by rw [← key R h, hx]
    by_cases hex : ∃ z : List Int, z.length = r.length ∧ z[0]? = some 0 ∧ Lcp r z r.length
    · obtain ⟨z, z1, z2, z3⟩ := hex
      have hu : ∀ y, y.length = r.length → y[0]? = some 0 → Lcp r y r.length → y = z := by
        intro y y1 y2 y3
        refine List.ext_getElem? fun q => ?_
        rcases Nat.eq_zero_or_pos q with h | h
        · subst h; rw [y2, z2]
        · rcases Nat.lt_or_ge q r.length with h' | h'
          · obtain ⟨v, e1, e2, e3⟩ := y3 q h h'
            obtain ⟨v', e1', e2', e3'⟩ := z3 q h h'
            have : v = v' := by
              rcases Nat.lt_trichotomy v v' with c | c | c
              · exact absurd (e2'.mono (by omega)) e3
              · exact c
              · exact absurd (e2.mono (by omega)) e3'
            rw [e1, e1', this]
          · rw [List.getElem?_eq_none (by omega), List.getElem?_eq_none (by omega)]
      have := hz (some z) (fun y y1 y2 y3 => by rw [hu y y1 y2 y3])
      cases this
    · have := hz (some []) (fun y y1 y2 y3 => absurd ⟨y, y1, y2, y3⟩ hex)
      cases this
  | some z =>
    by_cases hg : z.length = r.length ∧ z[0]? = some 0 ∧ Lcp r z r.length
    · exact ⟨z, rfl, hg⟩
    · exfalso
      by_cases hex : ∃ y : List Int, y.length = r.length ∧ y[0]? = some 0 ∧ Lcp r y r.length ∧ y ≠ z
      · obtain ⟨y, y1, y2, y3, y4⟩ := hex
        have hu : ∀ y', y'.length = r.length → y'[0]? = some 0 → Lcp r y' r.length → y' = y := by
          intro y' y1' y2' y3'
          refine List.ext_getElem? fun q => ?_
          rcases Nat.eq_zero_or_pos q with h | h
          · subst h; rw [y2, y2']
          · rcases Nat.lt_or_ge q r.length with h' | h'
            · obtain ⟨v, e1, e2, e3⟩ := y3 q h h'
              obtain ⟨v', e1', e2', e3'⟩ := y3' q h h'
              have : v = v' := by
                rcases Nat.lt_trichotomy v v' with c | c | c
                · exact absurd (e2'.mono (by omega)) e3
                · exact c
                · exact absurd (e2.mono (by omega)) e3'
              rw [e1, e1', this]
            · rw [List.getElem?_eq_none (by omega), List.getElem?_eq_none (by omega)]
        have := key (some y) (fun y' a b c => by rw [hu y' a b c])
        rw [hx] at this
        exact y4 (Option.some.inj this).symm
      · have := key none (fun y a b c => by
          exfalso
          by_cases e : y = z
          · exact hg (e ▸ ⟨a, b, c⟩)
          · exact hex ⟨y, a, b, c, e⟩)
        rw [hx] at this
        cases this
/-! ### Reverse, Shortest -/
theorem rev_l0 (l : List Int) (hl : l.length ≤ 1048576) : ∀ d i k : Nat, ∀ x : List Int, x.length = l.length → 2 * i + d = l.length → (∀ p, p < l.length → x[p]? = if p < i ∨ l.length - 1 - i < p then l[l.length - 1 - p]? else l[p]?) → d + 1 ≤ k → slices_Reverse_byte_byte.l0 k x (i : Int) ((l.length : Int) - 1 - (i : Int)) = some l.reverse := by
  intro d
  induction d using Nat.strongRecOn with
  | ind d ih =>
    intro i k x hx hd hp hk
    obtain ⟨k, rfl⟩ : ∃ k', k = k' + 1 := ⟨k - 1, by omega⟩
    rw [slices_Reverse_byte_byte.l0]
    by_cases h : 2 ≤ d
    · have e1 : (l.length : Int) - 1 - (i : Int) = ((l.length - 1 - i : Nat) : Int) := by omega
      have a1 : l.length - 1 - i < x.length := by omega
      have a2 : i < x.length := by omega
      rw [if_pos (by omega), if_pos (by omega), if_pos (by omega), if_pos (by omega), if_pos (by omega), wr1 (by omega), e1, Int.toNat_natCast, Int.toNat_natCast, rdN a1, rdN a2]
      have e2 : wrap64 (((l.length - 1 - i : Nat) : Int) - 1) = (l.length : Int) - 1 - ((i + 1 : Nat) : Int) := by rw [wrapId (by omega)]; omega
      rw [e2]
      refine ih (d - 2) (by omega) (i + 1) k _ (by rw [List.length_set, List.length_set]; exact hx) (by omega) ?_ (by omega)
      intro p hpl
      have p1 := hp i (by omega)
      have p2 := hp (l.length - 1 - i) (by omega)
      rw [if_neg (by omega)] at p1 p2
      have x1 : some x[i] = l[i]? := by rw [← p1, List.getElem?_eq_getElem a2]
      have x2 : some x[l.length - 1 - i] = l[l.length - 1 - i]? := by rw [← p2, List.getElem?_eq_getElem a1]
      by_cases q1 : p = l.length - 1 - i
      · subst q1
        rw [List.getElem?_set_self (by rw [List.length_set]; exact a1), if_pos (by omega), x1, show l.length - 1 - (l.length - 1 - i) = i by omega]
      · rw [List.getElem?_set_ne (fun e => q1 e.symm)]
        by_cases q2 : p = i
        · subst q2
          rw [List.getElem?_set_self a2, if_pos (by omega), x2]
        · rw [List.getElem?_set_ne (fun e => q2 e.symm), hp p hpl]
          by_cases q3 : p < i ∨ l.length - 1 - i < p
          · rw [if_pos q3, if_pos (by omega)]
          · rw [if_neg q3, if_neg (by omega)]
    · rw [if_neg (by omega)]
      refine congrArg some (List.ext_getElem? fun p => ?_)
      rcases Nat.lt_or_ge p l.length with hpl | hpl
      · rw [hp p hpl, List.getElem?_reverse hpl]
        by_cases q3 : p < i ∨ l.length - 1 - i < p
        · rw [if_pos q3]
        · rw [if_neg q3, show l.length - 1 - p = p by omega]
      · rw [List.getElem?_eq_none (by omega), List.getElem?_eq_none (by rw [List.length_reverse]; exact hpl)]
theorem reverse_f (l : List Int) (hl : l.length ≤ 1048576) (h0 : 1 ≤ l.length) {k : Nat} (hk : l.length + 1 ≤ k) : slices_Reverse_byte_byte.f k l = some l.reverse := by
  unfold slices_Reverse_byte_byte.f
  have e : wrap64 ((l.length : Int) - 1) = (l.length : Int) - 1 - ((0 : Nat) : Int) := by rw [wrapId (by omega)]; omega
  rw [e]
  exact rev_l0 l hl l.length 0 k l rfl (by omega) (fun p hp => by rw [if_neg (by omega)]) hk
theorem short_l0 (z : List Int) (hz : z.length ≤ 1048576) (hv : ∀ j, j < z.length → ∃ v : Nat, z[j]? = some (v : Int) ∧ v ≤ 1048576) : ∀ d i k m : Nat, i + d = z.length → m ≤ 1048576 → (∀ j v : Nat, j < i → z[j]? = some (v : Int) → v ≤ m) → (m = 0 ∨ ∃ j : Nat, z[j]? = some (m : Int)) → d + 1 ≤ k →
    ∃ M : Nat, tail_Shortest.l0 k (m : Int) z (z.length : Int) (i : Int) = some ((M + 1 : Nat) : Int) ∧ (∀ j v : Nat, j < z.length → z[j]? = some (v : Int) → v ≤ M) ∧ (M = 0 ∨ ∃ j : Nat, z[j]? = some (M : Int)) := by
  intro d
  induction d with
  | zero =>
    intro i k m hi hm h1 h2 hk
    obtain ⟨k, rfl⟩ : ∃ k', k = k' + 1 := ⟨k - 1, by omega⟩
    refine ⟨m, by rw [tail_Shortest.l0, if_neg (by omega), wr1 (by omega)], fun j v hj => h1 j v (by omega), h2⟩
  | succ d ih =>
    intro i k m hi hm h1 h2 hk
    obtain ⟨k, rfl⟩ : ∃ k', k = k' + 1 := ⟨k - 1, by omega⟩
    obtain ⟨v, hv1, hv2⟩ := hv i (by omega)
    have hmx : mx (m : Int) (rd z (i : Int)) = ((max m v : Nat) : Int) := by
      rw [rd_get hv1]; unfold mx; split <;> omega
    rw [tail_Shortest.l0, if_pos (by omega), if_pos (by omega), if_pos (by omega), hmx, wr1 (by omega)]
    refine ih (i + 1) k (max m v) (by omega) (by omega) (fun j u hj hu => ?_) ?_ (by omega)
    · rcases Nat.lt_or_ge j i with h | h
      · have := h1 j u h hu; omega
      · obtain rfl : j = i := by omega
        rw [hv1] at hu
        have : (v : Int) = (u : Int) := Option.some.inj hu
        omega
    · rcases Nat.le_total m v with h | h
      · exact .inr ⟨i, by rw [hv1, show max m v = v by omega]⟩
      · rw [show max m v = m by omega]; exact h2
theorem shortest_ok (t : List Int) (ht : t.length ≤ 1048576) {k : Nat} (hk : (t.length + 4) * t.length + t.length + 4 ≤ k) : ∃ n : Nat, tail_Shortest.f k t = some (n : Int) ∧ IsShort t n := by
  unfold tail_Shortest.f
  by_cases h : t.length = 0
  · exact ⟨0, by rw [if_pos (by omega)]; rfl, .inl ⟨List.length_eq_zero_iff.1 h, rfl⟩⟩
  · have hc : slices_Clone_byte_byte.f k t = some t := by unfold slices_Clone_byte_byte.f; rw [if_pos (by omega)]
    obtain ⟨z, z1, z2, z3, z4⟩ := overlaps_ok t.reverse (by rw [List.length_reverse]; exact ht) (by rw [List.length_reverse]; omega) (k := k) (by rw [List.length_reverse]; omega)
    rw [List.length_reverse] at z2 z4
    have hv : ∀ j, j < z.length → ∃ v : Nat, z[j]? = some (v : Int) ∧ v ≤ 1048576 := by
      intro j hj
      rcases Nat.eq_zero_or_pos j with h' | h'
      · subst h'; exact ⟨0, z3, by omega⟩
      · obtain ⟨v, e1, e2, _⟩ := z4 j h' (by omega)
        exact ⟨v, e1, by have := e2.1; rw [List.length_reverse] at this; omega⟩
    obtain ⟨M, m1, m2, m3⟩ := short_l0 z (by omega) hv z.length 0 k 0 (by omega) (by omega) (fun j v hj => by omega) (.inl rfl) (by omega)
    refine ⟨M + 1, ?_, .inr ⟨by omega, ?_, fun s hs hm => ?_, ?_⟩⟩
    · rw [if_neg (by omega), hc, Option.bind_some, reverse_f t ht (by omega) (by omega), Option.bind_some, z1, Option.bind_some]
      exact m1
    · rcases m3 with h' | ⟨j, hj⟩
      · omega
      · rcases Nat.eq_zero_or_pos j with h'' | h''
        · subst h''; rw [z3] at hj; have : (0 : Int) = (M : Int) := Option.some.inj hj; omega
        · have hjl : j < z.length := (List.getElem?_eq_some_iff.1 hj).1
          obtain ⟨v, e1, e2, _⟩ := z4 j h'' (by omega)
          rw [e1] at hj
          have : (v : Int) = (M : Int) := Option.some.inj hj
          have := e2.1
          rw [List.length_reverse] at this
          omega
    · have hsl := hm.1
      rw [List.length_reverse] at hsl
      obtain ⟨v, e1, e2, e3⟩ := z4 s hs (by omega)
      have := m2 s v (by omega) e1
      exact e3 (hm.mono (by omega))
    · rcases m3 with h' | ⟨j, hj⟩
      · exact .inl (by omega)
      · rcases Nat.eq_zero_or_pos j with h'' | h''
        · subst h''; rw [z3] at hj; have : (0 : Int) = (M : Int) := Option.some.inj hj; exact .inl (by omega)
        · have hjl : j < z.length := (List.getElem?_eq_some_iff.1 hj).1
          obtain ⟨v, e1, e2, _⟩ := z4 j h'' (by omega)
          rw [e1] at hj
          have : (v : Int) = (M : Int) := Option.some.inj hj
          exact .inr ⟨j, h'', by rw [show M + 1 - 1 = v by omega]; exact e2⟩
/-! ### the document's at, Shortest -/
theorem at9_f {t p : List Int} (hbt : Byt t) (hbp : Byt p) (ht : t.length ≤ 1048576) (hp : p.length ≤ 1048576) {i : Nat} (hi : i ≤ t.length) : cuecardref09_at.f t p (i : Int) = some (decide (i + p.length ≤ t.length ∧ (t.drop i).take p.length = p)) := by
  unfold cuecardref09_at.f
  rw [if_pos (by omega), if_pos (by omega), wrS (by omega) hi, wrA (by omega)]
  by_cases h : i + p.length ≤ t.length
  · rw [if_pos (by omega), if_pos (by omega), if_pos (by omega), if_pos (by omega), Int.toNat_natCast, Int.toNat_natCast, cut_mid', str_beq ((hbt.drop i).take _) hbp]
    simp [h]
  · rw [if_neg (by omega), decide_eq_false (fun hh => h hh.1)]
theorem rs_l1 (t : List Int) (hb : Byt t) (ht : t.length ≤ 1048576) {n : Nat} (hn1 : 1 ≤ n) (hn : n ≤ t.length) (N : Nat) (R : Option Int) (hyes : (∀ s, 1 ≤ s → ¬ Mat t.reverse s n) → some (n : Int) = R)
    (hno : (∃ s, 1 ≤ s ∧ Mat t.reverse s n) → ∀ k, N ≤ k → cuecardref09_Shortest.l0 k t ((n + 1 : Nat) : Int) = R) :
    ∀ d i k c0 : Nat, i + d = t.length → (c0 = 0 ↔ ∀ q, q < i → q < t.length - n → ¬ (t.drop q).take n = t.drop (t.length - n)) → c0 ≤ i → N + d + 1 ≤ k →
      cuecardref09_Shortest.l1 k t (n : Int) (t.drop (t.length - n)) ((c0 + (if t.length - n < i then 1 else 0) : Nat) : Int) (i : Int) = R := by
  have hpl : (t.drop (t.length - n)).length = n := by rw [List.length_drop]; omega
  intro d
  induction d with
  | zero =>
    intro i k c0 hi hc hci hk
    obtain ⟨k, rfl⟩ : ∃ k', k = k' + 1 := ⟨k - 1, by omega⟩
    rw [cuecardref09_Shortest.l1, if_neg (by omega), if_pos (show t.length - n < i by omega)]
    by_cases h : c0 = 0
    · rw [if_pos (by omega)]
      refine hyes (fun s hs hm => ?_)
      have hl := hm.1
      rw [List.length_reverse] at hl
      have e := (mat_rev (t := t) (i := t.length - n - s) (n := n) (by omega)).1 (by rw [show t.length - n - (t.length - n - s) = s by omega]; exact hm)
      exact hc.1 h (t.length - n - s) (by omega) (by omega) e
    · rw [if_neg (by omega), wr1 (by omega)]
      refine hno ?_ k (by omega)
      apply Classical.byContradiction
      intro hne
      refine h (hc.2 (fun q q1 q2 e => hne ⟨t.length - n - q, by omega, (mat_rev (by omega)).2 e⟩))
  | succ d ih =>
    intro i k c0 hi hc hci hk
    obtain ⟨k, rfl⟩ : ∃ k', k = k' + 1 := ⟨k - 1, by omega⟩
    have hite : (if t.length - n < i then 1 else 0 : Nat) ≤ 1 := by split <;> omega
    rw [cuecardref09_Shortest.l1, if_pos (by omega), at9_f hb (hb.drop _) ht (by omega) (by omega), Option.bind_some, hpl, wr1 (i := i) (by omega), wr1 (i := c0 + (if t.length - n < i then 1 else 0)) (by omega)]
    clear hite
    rcases Nat.lt_trichotomy i (t.length - n) with h | h | h
    · by_cases he : (t.drop i).take n = t.drop (t.length - n)
      · rw [if_pos (decide_eq_true ⟨by omega, he⟩)]
        have := ih (i + 1) k (c0 + 1) (by omega) ⟨fun h0 => by omega, fun h0 => absurd he (h0 i (by omega) h)⟩ (by omega) (by omega)
        rw [if_neg (by omega)] at this ⊢
        exact this
      · rw [if_neg (by simp; intro _; exact he)]
        have := ih (i + 1) k c0 (by omega) ⟨fun h0 q q1 q2 => by
          rcases Nat.lt_or_ge q i with h' | h'
          · exact hc.1 h0 q h' q2
          · obtain rfl : q = i := by omega
            exact he, fun h0 => hc.2 (fun q q1 q2 => h0 q (by omega) q2)⟩ (by omega) (by omega)
        rw [if_neg (by omega)] at this ⊢
        exact this
    · rw [if_pos (decide_eq_true ⟨by omega, by rw [h]; exact List.take_of_length_le (by omega)⟩)]
      have := ih (i + 1) k c0 (by omega) ⟨fun h0 q q1 q2 => hc.1 h0 q (by omega) q2, fun h0 => hc.2 (fun q q1 q2 => h0 q (by omega) q2)⟩ (by omega) (by omega)
      rw [if_pos (by omega)] at this
      rw [if_neg (by omega)]
      exact this
    · rw [if_neg (by simp; intro h'; omega)]
      have := ih (i + 1) k c0 (by omega) ⟨fun h0 q q1 q2 => hc.1 h0 q (by omega) q2, fun h0 => hc.2 (fun q q1 q2 => h0 q (by omega) q2)⟩ (by omega) (by omega)
      rw [if_pos (by omega)] at this ⊢
      exact this
theorem rs_l0 (t : List Int) (hb : Byt t) (ht : t.length ≤ 1048576) {nn : Nat} (hs : IsShort t nn) (h1 : 1 ≤ nn) : ∀ d n k : Nat, n + d = nn → 1 ≤ n → (∀ m, 1 ≤ m → m < n → ∃ s, 1 ≤ s ∧ Mat t.reverse s m) → (t.length + 3) * (d + 1) + 1 ≤ k → cuecardref09_Shortest.l0 k t (n : Int) = some (nn : Int) := by
  rcases hs with ⟨_, h0⟩ | ⟨_, hle, hnone, hprev⟩
  · omega
  have hs : IsShort t nn := .inr ⟨h1, hle, hnone, hprev⟩
  intro d
  induction d with
  | zero =>
    intro n k hd hn hm hk
    obtain ⟨k, rfl⟩ : ∃ k', k = k' + 1 := ⟨k - 1, by omega⟩
    have hpl : (t.drop (t.length - n)).length = n := by rw [List.length_drop]; omega
    rw [cuecardref09_Shortest.l0, if_pos (by omega), wrS (by omega) (by omega), if_pos (by omega), if_pos (by omega), Int.toNat_natCast]
    have := rs_l1 t hb ht hn (by omega) 0 (some (nn : Int)) (fun _ => by rw [show n = nn by omega]) (fun ⟨s, s1, s2⟩ => absurd (show Mat t.reverse s nn by rw [← show n = nn by omega]; exact s2) (hnone s s1)) t.length 0 k 0 (by omega) ⟨fun _ q hq => by omega, fun _ => rfl⟩ (by omega) (by omega)
    rw [if_neg (by omega)] at this
    exact this
  | succ d ih =>
    intro n k hd hn hm hk
    rw [Nat.mul_succ] at hk
    obtain ⟨k, rfl⟩ : ∃ k', k = k' + 1 := ⟨k - 1, by omega⟩
    have hpl : (t.drop (t.length - n)).length = n := by rw [List.length_drop]; omega
    rw [cuecardref09_Shortest.l0, if_pos (by omega), wrS (by omega) (by omega), if_pos (by omega), if_pos (by omega), Int.toNat_natCast]
    have := rs_l1 t hb ht hn (by omega) ((t.length + 3) * (d + 1) + 1) (some (nn : Int)) (fun hno => by
        have hn2 : IsShort t n := .inr ⟨hn, by omega, hno, by
          rcases Nat.lt_or_ge 1 n with h | h
          · exact .inr (hm (n - 1) (by omega) (by omega))
          · exact .inl (by omega)⟩
        rw [isShort_uniq hn2 hs]) (fun hex k hk => ih (n + 1) k (by omega) (by omega) (fun m m1 m2 => by
          rcases Nat.lt_or_ge m n with h | h
          · exact hm m m1 h
          · obtain rfl : m = n := by omega
            exact hex) hk) t.length 0 k 0 (by omega) ⟨fun _ q hq => by omega, fun _ => rfl⟩ (by omega) (by omega)
    rw [if_neg (by omega)] at this
    exact this
theorem refshort_ok (t : List Int) (hb : Byt t) (ht : t.length ≤ 1048576) {nn : Nat} (hs : IsShort t nn) {k : Nat} (hk : (t.length + 3) * (t.length + 1) + 1 ≤ k) : cuecardref09_Shortest.f k t = some (nn : Int) := by
  unfold cuecardref09_Shortest.f
  by_cases h : nn = 0
  · rcases hs with ⟨h1, h2⟩ | ⟨h1, _⟩
    · subst h1 h2
      obtain ⟨k, rfl⟩ : ∃ k', k = k' + 1 := ⟨k - 1, by omega⟩
      rw [cuecardref09_Shortest.l0, if_neg (by simp)]
      rfl
    · omega
  · have hle : nn ≤ t.length := by
      rcases hs with ⟨_, h2⟩ | ⟨_, h2, _⟩
      · omega
      · exact h2
    have hm : (t.length + 3) * (nn - 1 + 1) ≤ (t.length + 3) * (t.length + 1) := Nat.mul_le_mul_left _ (by omega)
    exact rs_l0 t hb ht hs (by omega) (nn - 1) 1 k (by omega) (Nat.le_refl _) (fun m m1 m2 => by omega) (by omega)
theorem mn_nat (a b : Nat) : mn (a : Int) (b : Int) = ((min a b : Nat) : Int) := by unfold mn; split <;> omega
theorem mx_nat (a b : Nat) : mx (a : Int) (b : Int) = ((max a b : Nat) : Int) := by unfold mx; split <;> omega
theorem alive_f {k : Nat} : cuecardlaw09_alive.f k = some true := rfl
end Go.Proofs.Ytdeoingjkomdcaa.QA
