import Derived.Test.YtefippbcgdfnbaaQAx2
import Derived.Test.YtefippbcgdfnbaaQAx3
import Derived.Test.YtefippbcgdfnbaaQAx4
import Derived.Test.YtefippbcgdfnbaaQAx8
import Derived.Test.YtefippbcgdfnbaaQAx10
import Derived.Test.YtefippbcgdfnbaaQAx13
import Derived.Test.YtefippbcgdfnbaaQAx14
import Derived.Test.YtefippbcgdfnbaaQAx22
import Derived.Lib.Zigzag
namespace Go.Proofs.Ytefippbcgdfnbaa.QA
open Go.RowKit Go.Proofs.YtefippbcgdfnbaaW.PrintWords Go.Proofs.YtefippbcgdfnbaaW.PrintLast Go.Proofs.YtefippbcgdfnbaaW.PrintMore
set_option linter.unusedVariables false
set_option linter.unusedSimpArgs false
namespace Va
/-! ### numbers, without the program -/
/-- digit i to the base 128 -/
def dgt (x i : Nat) : Nat := x / 128 ^ i % 128
/-- m bytes for x -/
def Cnt (x m : Nat) : Prop := 1 ≤ m ∧ m ≤ 10 ∧ x < 128 ^ m ∧ (m = 1 ∨ 128 ^ (m - 1) ≤ x)
/-- byte i of the m bytes of x -/
def byt (x m i : Nat) : Int := if i + 1 < m then ((128 + dgt x i : Nat) : Int) else ((dgt x i : Nat) : Int)
def enc (x m : Nat) : List Int := (List.range m).map (byt x m)
theorem enc_length (x m : Nat) : (enc x m).length = m := by simp [enc]
theorem enc_rd (x m i : Nat) (h : i < m) : rd (enc x m) (i : Int) = byt x m i := by
  unfold rd enc
  rw [Int.toNat_natCast, List.getD_eq_getElem?_getD, List.getElem?_map, List.getElem?_range h]
  rfl
theorem dgt_lt (x i : Nat) : dgt x i < 128 := Nat.mod_lt _ (by decide)
theorem pow128 (i : Nat) : (128 : Nat) ^ i = 2 ^ (7 * i) := by
  rw [show (128 : Nat) = 2 ^ 7 from rfl, ← Nat.pow_mul]
theorem pow128_pos (i : Nat) : 0 < (128 : Nat) ^ i := Nat.pow_pos (by decide)
theorem Cnt.unique {x m n : Nat} (h : Cnt x m) (k : Cnt x n) : m = n := by
  obtain ⟨h1, h2, h3, h4⟩ := h
  obtain ⟨k1, k2, k3, k4⟩ := k
  rcases Nat.lt_trichotomy m n with hlt | rfl | hlt
  · rcases k4 with rfl | k4
    · omega
    · exact absurd (Nat.lt_of_lt_of_le h3 (Nat.pow_le_pow_right (by decide) (show m ≤ n - 1 by omega))) (by omega)
  · rfl
  · rcases h4 with rfl | h4
    · omega
    · exact absurd (Nat.lt_of_lt_of_le k3 (Nat.pow_le_pow_right (by decide) (show n ≤ m - 1 by omega))) (by omega)
theorem wr_i {i : Nat} (h : i < 4611686018427387904) : wrap64 ((i : Int) + 1) = ((i + 1 : Nat) : Int) := by unfold wrap64; omega
theorem wr_7 {i : Nat} (h : i ≤ 10) : wrap64 (7 * (i : Int)) = ((7 * i : Nat) : Int) := by unfold wrap64; omega
theorem or128 (a : Nat) (h : a < 256) : Go.bits .or .u8 (a : Int) 128 = ((128 + a % 128 : Nat) : Int) := by
  have key : ∀ a : Fin 256, Go.bits .or .u8 ((a.val : Nat) : Int) 128 = ((128 + a.val % 128 : Nat) : Int) := by decide +kernel
  exact key ⟨a, h⟩
theorem and127 (a : Nat) (h : a < 256) : Go.bits .and .u8 (a : Int) 127 = ((a % 128 : Nat) : Int) := by
  have key : ∀ a : Fin 256, Go.bits .and .u8 ((a.val : Nat) : Int) 127 = ((a.val % 128 : Nat) : Int) := by decide +kernel
  exact key ⟨a, h⟩
theorem shr7 (x i : Nat) (h : i ≤ 9) : shr .u64 (x : Int) ((7 * i : Nat) : Int) = ((x / 128 ^ i : Nat) : Int) := by
  unfold shr
  rw [Int.toNat_natCast, Nat.min_eq_left (show 7 * i ≤ IntKind.u64.bits by show 7 * i ≤ 64; omega), pow128]
  push_cast
  rfl
theorem wrapsU64 (n : Int) (h₀ : 0 ≤ n) (h₁ : n < 2 ^ 64) : IntKind.u64.wrap n = n := by
  have : IntKind.u64.wrap n = n % 2 ^ 64 := by simp [IntKind.wrap, IntKind.bits, IntKind.signed]
  rw [this]; omega
theorem put_byte (x i : Nat) (h : i ≤ 9) : Go.bits .or .u8 ((shr .u64 (x : Int) (wrap64 (7 * (i : Int)))) % 256) 128 = ((128 + dgt x i : Nat) : Int) := by
  rw [wr_7 (by omega), shr7 x i h, show (((x / 128 ^ i : Nat) : Int) % 256) = ((x / 128 ^ i % 256 : Nat) : Int) by omega, or128 _ (Nat.mod_lt _ (by decide))]
  unfold dgt
  congr 2
  omega
/-- a digit joins what is below it -/
theorem or_digit (acc c i : Nat) (hacc : acc < 128 ^ i) (hi : i ≤ 9) (hc : c < 256) (hf : c % 128 * 128 ^ i < 2 ^ 64) :
    Go.bits .or .u64 (acc : Int) (shl .u64 (IntKind.u64.wrap (Go.bits .and .u8 (c : Int) 127)) (wrap64 (7 * (i : Int)))) = ((acc + c % 128 * 128 ^ i : Nat) : Int) := by
  have h64 : (128 : Nat) ^ i ≤ 2 ^ 63 := by rw [pow128]; exact Nat.pow_le_pow_right (by decide) (by omega)
  rw [and127 c hc, wrapsU64 _ (by omega) (by omega), wr_7 (by omega)]
  unfold shl
  rw [Int.toNat_natCast, Nat.min_eq_left (show 7 * i ≤ IntKind.u64.bits by show 7 * i ≤ 64; omega)]
  have e : ((c % 128 : Nat) : Int) * 2 ^ (7 * i) = ((c % 128 * 128 ^ i : Nat) : Int) := by rw [pow128]; push_cast; rfl
  rw [e, wrapsU64 _ (by omega) (by exact_mod_cast hf)]
  rw [(bits_nat .u64 64 (by decide) wrapsU64 acc (c % 128 * 128 ^ i) (by omega) hf).2]
  congr 1
  rw [pow128] at hacc ⊢
  rw [Nat.mul_comm (c % 128), Nat.or_comm, ← Nat.two_pow_add_eq_or_of_lt hacc, Nat.add_comm]
/-- the value of n bytes that stand at a place -/
def val (b : List Int) (a : Nat) : Nat → Nat
  | 0 => 0
  | n + 1 => val b a n + (rd b ((a + n : Nat) : Int)).toNat % 128 * 128 ^ n
theorem val_succ (b : List Int) (a n : Nat) : val b a (n + 1) = val b a n + (rd b ((a + n : Nat) : Int)).toNat % 128 * 128 ^ n := rfl
theorem val_lt (b : List Int) (a n : Nat) : val b a n < 128 ^ n := by
  induction n with
  | zero => simp [val]
  | succ n ih =>
    unfold val
    have h1 : (rd b ((a + n : Nat) : Int)).toNat % 128 ≤ 127 := by omega
    have h2 : (rd b ((a + n : Nat) : Int)).toNat % 128 * 128 ^ n ≤ 127 * 128 ^ n := Nat.mul_le_mul_right _ h1
    rw [Nat.pow_succ]
    omega
theorem val_congr (b c : List Int) (a d n : Nat) (h : ∀ j, j < n → rd b ((a + j : Nat) : Int) = rd c ((d + j : Nat) : Int)) : val b a n = val c d n := by
  induction n with
  | zero => rfl
  | succ n ih => unfold val; rw [ih (fun j hj => h j (by omega)), h n (by omega)]
theorem mod_pow_step (x n : Nat) : x % 128 ^ n + x / 128 ^ n % 128 * 128 ^ n = x % 128 ^ (n + 1) := by
  rw [Nat.pow_succ, Nat.mod_mul, Nat.mul_comm (128 ^ n)]
theorem val_digits (b : List Int) (a x : Nat) : ∀ n, (∀ j, j < n → (rd b ((a + j : Nat) : Int)).toNat % 128 = dgt x j) → val b a n = x % 128 ^ n := by
  intro n
  induction n with
  | zero => intro _; simp [val, Nat.mod_one]
  | succ n ih =>
    intro h
    unfold val
    rw [ih (fun j hj => h j (by omega)), h n (by omega)]
    exact mod_pow_step x n
theorem digits_val (b : List Int) (a : Nat) : ∀ n j, j < n → dgt (val b a n) j = (rd b ((a + j : Nat) : Int)).toNat % 128 := by
  intro n
  induction n with
  | zero => intro j hj; omega
  | succ n ih =>
    intro j hj
    unfold val dgt
    rcases Nat.lt_or_ge j n with h | h
    · rw [← ih j h]
      unfold dgt
      have : (128 : Nat) ^ n = 128 ^ j * (128 * 128 ^ (n - j - 1)) := by
        rw [← Nat.pow_succ', ← Nat.pow_add]; congr 1; omega
      rw [this, ← Nat.mul_assoc, Nat.mul_comm _ (128 ^ j), Nat.mul_assoc, Nat.mul_comm (128 ^ j), Nat.add_mul_div_right _ _ (pow128_pos j)]
      rw [← Nat.mul_assoc, Nat.mul_comm _ 128, Nat.mul_assoc, Nat.add_mul_mod_self_left]
    · obtain rfl : j = n := by omega
      rw [Nat.add_mul_div_right _ _ (pow128_pos j), Nat.div_eq_of_lt (val_lt b a j)]
      omega
theorem byt_mod (x m i : Nat) : (byt x m i).toNat % 128 = dgt x i := by
  have := dgt_lt x i
  unfold byt
  split <;> (rw [Int.toNat_natCast]; omega)
theorem byt_range (x m i : Nat) : 0 ≤ byt x m i ∧ byt x m i < 256 := by
  have := dgt_lt x i
  unfold byt
  split <;> omega
/-- the last digit of a number is 0 just if it is 0 -/
theorem top_digit {x m : Nat} (h : Cnt x m) : dgt x (m - 1) = x / 128 ^ (m - 1) ∧ (dgt x (m - 1) = 0 → m = 1) := by
  obtain ⟨h1, h2, h3, h4⟩ := h
  have e : 128 ^ m = 128 ^ (m - 1) * 128 := by rw [← Nat.pow_succ]; congr 1; omega
  have hd : x / 128 ^ (m - 1) < 128 := by rw [Nat.div_lt_iff_lt_mul (pow128_pos _)]; rw [e] at h3; rw [Nat.mul_comm]; exact h3
  have e2 : dgt x (m - 1) = x / 128 ^ (m - 1) := Nat.mod_eq_of_lt hd
  refine ⟨e2, fun h0 => ?_⟩
  rcases h4 with h4 | h4
  · exact h4
  · have : 1 ≤ x / 128 ^ (m - 1) := (Nat.le_div_iff_mul_le (pow128_pos _)).2 (by omega)
    omega
theorem Cnt.exists (x : Nat) (h : x < 2 ^ 64) : ∃ m, Cnt x m := by
  have key : ∀ m, x < 128 ^ m → m ≤ 10 → ∃ n, Cnt x n := by
    intro m
    induction m with
    | zero => intro h _; exact ⟨1, by omega, by omega, by simp at h ⊢; omega, .inl rfl⟩
    | succ m ih =>
      intro h hm
      rcases Nat.lt_or_ge x (128 ^ m) with hx | hx
      · exact ih hx (by omega)
      · exact ⟨m + 1, by omega, hm, h, .inr (by simpa using hx)⟩
  exact key 10 (Nat.lt_of_lt_of_le h (by decide)) (by omega)
/-- with ten bytes the last digit is 1 -/
theorem top_ten {x m : Nat} (h : Cnt x m) (hx : x < 2 ^ 64) (h10 : m = 10) : dgt x 9 ≤ 1 := by
  subst h10
  have e := (top_digit h).1
  have : x / 128 ^ 9 < 2 := by rw [Nat.div_lt_iff_lt_mul (pow128_pos _)]; exact Nat.lt_of_lt_of_le hx (by decide)
  simp at e
  omega
/-- the bytes that tell a number are just its own -/
theorem own_bytes (b : List Int) (a n : Nat) (hn : n ≤ 9) (hb : ∀ j, j < n → 128 ≤ rd b ((a + j : Nat) : Int) ∧ rd b ((a + j : Nat) : Int) < 256) (h0 : 0 ≤ rd b ((a + n : Nat) : Int)) (h1 : rd b ((a + n : Nat) : Int) < 128)
    (hz : rd b ((a + n : Nat) : Int) = 0 → n = 0) : Cnt (val b a (n + 1)) (n + 1) ∧ ∀ j, j < n + 1 → rd b ((a + j : Nat) : Int) = byt (val b a (n + 1)) (n + 1) j := by
  refine ⟨⟨by omega, by omega, val_lt _ _ _, ?_⟩, fun j hj => ?_⟩
  · rcases Nat.eq_zero_or_pos n with h | h
    · exact .inl (by omega)
    · refine .inr ?_
      simp only [Nat.add_sub_cancel]
      unfold val
      have : 1 ≤ (rd b ((a + n : Nat) : Int)).toNat % 128 := by
        have : rd b ((a + n : Nat) : Int) ≠ 0 := fun e => by have := hz e; omega
        omega
      have := Nat.mul_le_mul_right (128 ^ n) this
      omega
  · unfold byt
    rw [digits_val b a (n + 1) j hj]
    rcases Nat.lt_or_ge j n with h | h
    · rw [if_pos (by omega)]
      have := hb j h
      omega
    · obtain rfl : j = n := by omega
      rw [if_neg (by omega)]
      omega
theorem val_enc {x m : Nat} (h : Cnt x m) (b : List Int) (a : Nat) (hb : ∀ j, j < m → rd b ((a + j : Nat) : Int) = byt x m j) : val b a m = x := by
  rw [val_digits b a x m (fun j hj => by rw [hb j hj, byt_mod])]
  exact Nat.mod_eq_of_lt h.2.2.1
theorem ten_lt : (128 : Nat) ^ 10 = 2 ^ 70 := by decide
theorem list_ext_rd {b c : List Int} (hl : b.length = c.length) (h : ∀ j, j < b.length → rd b (j : Int) = rd c (j : Int)) : b = c := by
  refine List.ext_getElem hl fun j h1 h2 => ?_
  have := h j h1
  unfold rd at this
  simpa [List.getD_eq_getElem?_getD, List.getElem?_eq_getElem h1, List.getElem?_eq_getElem h2] using this
def len8 : ByteArray := ⟨#[0, 1, 2, 2, 3, 3, 3, 3, 4, 4, 4, 4, 4, 4, 4, 4, 5, 5, 5, 5, 5, 5, 5, 5, 5, 5, 5, 5, 5, 5, 5, 5, 6, 6, 6, 6, 6, 6, 6, 6, 6, 6, 6, 6, 6, 6, 6, 6, 6, 6, 6, 6, 6, 6, 6, 6, 6, 6, 6, 6, 6, 6, 6, 6, 7, 7, 7, 7, 7, 7, 7, 7, 7, 7, 7, 7, 7, 7, 7, 7, 7, 7, 7, 7, 7, 7, 7, 7, 7, 7, 7, 7, 7, 7, 7, 7, 7, 7, 7, 7, 7, 7, 7, 7, 7, 7, 7, 7, 7, 7, 7, 7, 7, 7, 7, 7, 7, 7, 7, 7, 7, 7, 7, 7, 7, 7, 7, 7, 8, 8, 8, 8, 8, 8, 8, 8, 8, 8, 8, 8, 8, 8, 8, 8, 8, 8, 8, 8, 8, 8, 8, 8, 8, 8, 8, 8, 8, 8, 8, 8, 8, 8, 8, 8, 8, 8, 8, 8, 8, 8, 8, 8, 8, 8, 8, 8, 8, 8, 8, 8, 8, 8, 8, 8, 8, 8, 8, 8, 8, 8, 8, 8, 8, 8, 8, 8, 8, 8, 8, 8, 8, 8, 8, 8, 8, 8, 8, 8, 8, 8, 8, 8, 8, 8, 8, 8, 8, 8, 8, 8, 8, 8, 8, 8, 8, 8, 8, 8, 8, 8, 8, 8, 8, 8, 8, 8, 8, 8, 8, 8, 8, 8, 8, 8, 8, 8, 8, 8, 8, 8, 8, 8, 8, 8, 8, 8]⟩
/-! ### bits.Len64, vary.Put -/
theorem len8_spec (v : Nat) (h : v < 256) : ∃ l : Nat, bt len8 (v : Int) = (l : Int) ∧ l ≤ 8 ∧ v < 2 ^ l ∧ (l = 0 ∨ 2 ^ (l - 1) ≤ v) := by
  have key : ∀ v : Fin 256, ∃ l : Fin 9, bt len8 ((v.val : Nat) : Int) = ((l.val : Nat) : Int) ∧ v.val < 2 ^ l.val ∧ (l.val = 0 ∨ 2 ^ (l.val - 1) ≤ v.val) := by decide +kernel
  obtain ⟨l, h1, h2, h3⟩ := key ⟨v, h⟩
  exact ⟨l.val, h1, by omega, h2, h3⟩
theorem shifted {y s l : Nat} (h : y / 2 ^ s < 2 ^ l) (h' : l = 0 ∨ 2 ^ (l - 1) ≤ y / 2 ^ s) (h0 : 0 < y / 2 ^ s) : y < 2 ^ (s + l) ∧ (s + l = 0 ∨ 2 ^ (s + l - 1) ≤ y) := by
  have hl : 0 < l := by
    rcases Nat.eq_zero_or_pos l with rfl | hl
    · simp at h; simp at h0; omega
    · exact hl
  constructor
  · rw [Nat.div_lt_iff_lt_mul (Nat.two_pow_pos s)] at h
    rw [Nat.pow_add, Nat.mul_comm]; exact h
  · refine .inr ?_
    rcases h' with h' | h'
    · omega
    · rw [Nat.le_div_iff_mul_le (Nat.two_pow_pos s), ← Nat.pow_add] at h'
      rw [show s + l - 1 = l - 1 + s by omega]; exact h'
theorem wr_a (n l : Nat) (hn : n ≤ 32) (hl : l ≤ 8) : wrap64 ((wrap64 ((wrap64 ((n : Int) + 16)) + 8)) + wrap64 (l : Int)) = ((n + (24 + l) : Nat) : Int) := by unfold wrap64; omega
theorem wr_b (n l : Nat) (hn : n ≤ 32) (hl : l ≤ 8) : wrap64 ((wrap64 ((n : Int) + 16)) + wrap64 (l : Int)) = ((n + (16 + l) : Nat) : Int) := by unfold wrap64; omega
theorem wr_c (n l : Nat) (hn : n ≤ 32) (hl : l ≤ 8) : wrap64 ((wrap64 ((n : Int) + 8)) + wrap64 (l : Int)) = ((n + (8 + l) : Nat) : Int) := by unfold wrap64; omega
theorem wr_d (n l : Nat) (hn : n ≤ 32) (hl : l ≤ 8) : wrap64 ((n : Int) + wrap64 (l : Int)) = ((n + l : Nat) : Int) := by unfold wrap64; omega
set_option maxRecDepth 100000 in
theorem len_j0 (y n : Nat) (hy : y < 4294967296) (hn : n ≤ 32) : ∃ l : Nat, l ≤ 32 ∧ y < 2 ^ l ∧ (l = 0 ∨ 2 ^ (l - 1) ≤ y) ∧ ∀ k, bits_Len64.j0 (k + 1) (y : Int) (n : Int) = some ((n + l : Nat) : Int) := by
  by_cases h1 : 65536 ≤ y
  · by_cases h2 : 16777216 ≤ y
    · obtain ⟨l, e, h3, h4, h5⟩ := len8_spec (y / 2 ^ 24) (by omega)
      have hs := shifted h4 h5 (by omega)
      refine ⟨24 + l, by omega, hs.1, hs.2, fun k => ?_⟩
      rw [bits_Len64.j0]
      rw [if_pos (by omega), if_pos (by omega), if_pos (by omega), if_pos (by omega)]
      rw [← len8.eq_1, show ((((y : Int) / 65536) / 256) % 256) = ((y / 2 ^ 24 : Nat) : Int) by omega, e]
      rw [wr_a n l hn h3]
    · obtain ⟨l, e, h3, h4, h5⟩ := len8_spec (y / 2 ^ 16) (by omega)
      have hs := shifted h4 h5 (by omega)
      refine ⟨16 + l, by omega, hs.1, hs.2, fun k => ?_⟩
      rw [bits_Len64.j0]
      rw [if_pos (by omega), if_neg (by omega), if_pos (by omega), if_pos (by omega)]
      rw [← len8.eq_1, show (((y : Int) / 65536) % 256) = ((y / 2 ^ 16 : Nat) : Int) by omega, e]
      rw [wr_b n l hn h3]
  · by_cases h2 : 256 ≤ y
    · obtain ⟨l, e, h3, h4, h5⟩ := len8_spec (y / 2 ^ 8) (by omega)
      have hs := shifted h4 h5 (by omega)
      refine ⟨8 + l, by omega, hs.1, hs.2, fun k => ?_⟩
      rw [bits_Len64.j0]
      rw [if_neg (by omega), if_pos (by omega), if_pos (by omega), if_pos (by omega)]
      rw [← len8.eq_1, show (((y : Int) / 256) % 256) = ((y / 2 ^ 8 : Nat) : Int) by omega, e]
      rw [wr_c n l hn h3]
    · obtain ⟨l, e, h3, h4, h5⟩ := len8_spec y (by omega)
      refine ⟨l, by omega, h4, h5, fun k => ?_⟩
      rw [bits_Len64.j0]
      rw [if_neg (by omega), if_neg (by omega), if_pos (by omega), if_pos (by omega)]
      rw [← len8.eq_1, show ((y : Int) % 256) = ((y : Nat) : Int) by omega, e]
      rw [wr_d n l hn h3]
theorem len_f (x : Nat) (hx : x < 2 ^ 64) : ∃ l : Nat, l ≤ 64 ∧ x < 2 ^ l ∧ (l = 0 ∨ 2 ^ (l - 1) ≤ x) ∧ ∀ k, bits_Len64.f (k + 1) (x : Int) = some ((l : Nat) : Int) := by
  unfold bits_Len64.f
  by_cases h : 4294967296 ≤ x
  · obtain ⟨l, h1, h2, h3, h4⟩ := len_j0 (x / 2 ^ 32) 32 (by omega) (by omega)
    have hs := shifted h2 h3 (by omega)
    refine ⟨32 + l, by omega, hs.1, hs.2, fun k => ?_⟩
    rw [if_pos (by omega), show ((x : Int) / 4294967296) = ((x / 2 ^ 32 : Nat) : Int) by omega]
    exact h4 k
  · obtain ⟨l, h1, h2, h3, h4⟩ := len_j0 x 0 (by omega) (by omega)
    refine ⟨l, by omega, h2, h3, fun k => ?_⟩
    rw [if_neg (by omega)]
    have := h4 k
    simpa using this
/-- how many bytes -/
theorem cnt_of_len {x l : Nat} (hl : l ≤ 64) (h1 : x < 2 ^ l) (h2 : l = 0 ∨ 2 ^ (l - 1) ≤ x) : Cnt x (max 1 ((l + 6) / 7)) := by
  refine ⟨by omega, by omega, ?_, ?_⟩
  · rw [pow128]
    exact Nat.lt_of_lt_of_le h1 (Nat.pow_le_pow_right (by decide) (by omega))
  · by_cases h : l ≤ 7
    · exact .inl (by omega)
    · refine .inr ?_
      rcases h2 with h2 | h2
      · omega
      · rw [pow128]
        exact Nat.le_trans (Nat.pow_le_pow_right (by decide) (by omega)) h2
/-- the bytes behind i rounds -/
def half (x m i : Nat) : List Int := (List.range m).map fun j => if j < i then ((128 + dgt x j : Nat) : Int) else 0
theorem half_length (x m i : Nat) : (half x m i).length = m := by simp [half]
theorem half_set (x m i : Nat) : (half x m i).set i ((128 + dgt x i : Nat) : Int) = half x m (i + 1) := by
  apply List.ext_getElem
  · simp [half]
  · intro j h1 h2
    simp only [half, List.getElem_set, List.getElem_map, List.getElem_range]
    by_cases e : i = j
    · subst e; rw [if_pos rfl, if_pos (by omega)]
    · rw [if_neg e]
      by_cases hj : j < i
      · rw [if_pos hj, if_pos (by omega)]
      · rw [if_neg hj, if_neg (by omega)]
theorem half_end (x m : Nat) (hm : 1 ≤ m) : (half x m m).set (m - 1) ((dgt x (m - 1) : Nat) : Int) = enc x m := by
  apply List.ext_getElem
  · simp [half, enc]
  · intro j h1 h2
    have hj : j < m := by simpa [enc] using h2
    simp only [half, enc, byt, List.getElem_set, List.getElem_map, List.getElem_range]
    by_cases e : m - 1 = j
    · subst e; rw [if_pos rfl, if_neg (by omega)]
    · rw [if_neg e, if_pos (by omega), if_pos (by omega)]
theorem put_l0 (x m : Nat) (hm : 1 ≤ m) (hm' : m ≤ 10) (d : Nat) : ∀ (k i : Nat), i ≤ m → m - i = d → d < k →
    vary_Put.l0 k (x : Int) (m : Int) (half x m i) (m : Int) (i : Int) = some (enc x m) := by
  induction d with
  | zero =>
    intro k i h1 h2 hk
    obtain ⟨k, rfl⟩ : ∃ m, k = m + 1 := ⟨k - 1, by omega⟩
    obtain rfl : i = m := by omega
    have e1 : wrap64 ((i : Int) - 1) = ((i - 1 : Nat) : Int) := by unfold wrap64; omega
    have hr : rd (half x i i) ((i - 1 : Nat) : Int) = ((128 + dgt x (i - 1) : Nat) : Int) := by
      unfold rd half
      rw [Int.toNat_natCast, List.getD_eq_getElem?_getD, List.getElem?_map, List.getElem?_range (by omega)]
      simp only [Option.map_some, Option.getD_some]
      rw [if_pos (by omega)]
    have hd := dgt_lt x (i - 1)
    simp only [vary_Put.l0]
    rw [if_neg (by omega), e1, if_pos (by omega), if_pos (by rw [half_length]; omega), hr, and127 _ (by omega), Int.toNat_natCast]
    rw [show (128 + dgt x (i - 1)) % 128 = dgt x (i - 1) by omega]
    rw [half_end x i hm]
  | succ d ih =>
    intro k i h1 h2 hk
    obtain ⟨k, rfl⟩ : ∃ m, k = m + 1 := ⟨k - 1, by omega⟩
    simp only [vary_Put.l0]
    rw [if_pos (by omega), if_pos (by rw [wr_7 (by omega)]; omega), if_pos (by omega), if_pos (by rw [half_length]; omega), put_byte x i (by omega), Int.toNat_natCast, half_set, wr_i (by omega)]
    exact ih k (i + 1) (by omega) (by omega) (by omega)
theorem put_f (x : Nat) (hx : x < 2 ^ 64) : ∃ m, Cnt x m ∧ ∀ k, 12 ≤ k → vary_Put.f k (x : Int) = some (enc x m) := by
  obtain ⟨l, h1, h2, h3, h4⟩ := len_f x hx
  have hc := cnt_of_len h1 h2 h3
  refine ⟨_, hc, fun k hk => ?_⟩
  obtain ⟨m, hm⟩ : ∃ m, max 1 ((l + 6) / 7) = m := ⟨_, rfl⟩
  rw [hm] at hc ⊢
  obtain ⟨c1, c2, _, _⟩ := hc
  unfold vary_Put.f
  obtain ⟨k, rfl⟩ : ∃ m, k = m + 1 := ⟨k - 1, by omega⟩
  rw [h4 k, Option.bind_some]
  have e : mx 1 (wrap64 (Int.tdiv (wrap64 (((l : Nat) : Int) + 6)) 7)) = (m : Int) := by
    have e1 : wrap64 (((l : Nat) : Int) + 6) = ((l + 6 : Nat) : Int) := by unfold wrap64; omega
    rw [e1]
    have e2 : Int.tdiv ((l + 6 : Nat) : Int) 7 = (((l + 6) / 7 : Nat) : Int) := by rw [Int.tdiv_eq_ediv_of_nonneg (by omega)]; omega
    rw [e2]
    unfold mx wrap64
    split <;> omega
  rw [e, if_pos (by omega), if_pos (by omega), Int.toNat_natCast]
  have e0 : (List.replicate m (0 : Int)) = half x m 0 := by
    apply List.ext_getElem
    · simp [half]
    · intro j _ _; simp [half]
  rw [e0]
  exact put_l0 x m c1 c2 m (k + 1) 0 (by omega) (by omega) (by omega)
/-! ### vary.Get -/
def Rng (b : List Int) : Prop := ∀ i : Nat, i < b.length → 0 ≤ rd b (i : Int) ∧ rd b (i : Int) < 256
theorem rng_of_wf {b : List Int} (h : ∀ x ∈ b, (Lit.int .u8 x).wf = true) : Rng b := by
  intro i hi
  have : rd b (i : Int) = b[i] := by unfold rd; simp [List.getD_eq_getElem?_getD, List.getElem?_eq_getElem hi]
  rw [this]
  have := h _ (List.getElem_mem hi)
  simp only [Lit.wf, IntKind.min, IntKind.max, IntKind.signed, IntKind.bits, Bool.and_eq_true] at this
  simp at this
  omega
def Stop (b : List Int) (a n : Nat) : Prop :=
  n ≤ 10 ∧ (∀ j, j < n → a + j < b.length ∧ 128 ≤ rd b ((a + j : Nat) : Int)) ∧ (n = 10 ∨ a + n = b.length ∨ (a + n < b.length ∧ rd b ((a + n : Nat) : Int) < 128))
theorem Stop.unique {b : List Int} {a m n : Nat} (h : Stop b a m) (k : Stop b a n) : m = n := by
  obtain ⟨h1, h2, h3⟩ := h
  obtain ⟨k1, k2, k3⟩ := k
  rcases Nat.lt_trichotomy m n with hlt | rfl | hlt
  · have := k2 m hlt
    omega
  · rfl
  · have := h2 n hlt
    omega
def getR (b : List Int) (a n : Nat) : Int × Int × Int :=
  if n = 10 then (0, 0, 4) else if a + n = b.length then (0, 0, 5) else
    if (rd b ((a + n : Nat) : Int) = 0 ∧ 0 < n) ∨ (1 < rd b ((a + n : Nat) : Int) ∧ n = 9) then (0, 0, 4)
    else (((val b a (n + 1) : Nat) : Int), ((a + n + 1 : Nat) : Int), 0)
theorem get_l0 (b : List Int) (hb : Rng b) (hlen : b.length ≤ 281474976710656) (a : Nat) (d : Nat) : ∀ (i : Nat) (acc : Int), i ≤ 10 → 10 - i = d → a + i ≤ b.length →
    (∀ j, j < i → a + j < b.length ∧ 128 ≤ rd b ((a + j : Nat) : Int)) → (i ≤ 9 → acc = ((val b a i : Nat) : Int)) →
    ∃ n, Stop b a n ∧ ∀ k, d < k → vary_Get.l0 k b (a : Int) acc (i : Int) = some (getR b a n) := by
  induction d with
  | zero =>
    intro i acc h1 h2 h3 h4 h5
    obtain rfl : i = 10 := by omega
    refine ⟨10, ⟨by omega, h4, .inl rfl⟩, fun k hk => ?_⟩
    obtain ⟨k, rfl⟩ : ∃ m, k = m + 1 := ⟨k - 1, by omega⟩
    simp only [vary_Get.l0]
    rw [if_neg (by omega)]
    rfl
  | succ d ih =>
    intro i acc h1 h2 h3 h4 h5
    have hi : i ≤ 9 := by omega
    have hacc := h5 hi
    subst hacc
    have ew : wrap64 ((a : Int) + (i : Int)) = ((a + i : Nat) : Int) := by unfold wrap64; omega
    rcases Nat.eq_or_lt_of_le h3 with he | hlt
    · refine ⟨i, ⟨by omega, h4, .inr (.inl he)⟩, fun k hk => ?_⟩
      obtain ⟨k, rfl⟩ : ∃ m, k = m + 1 := ⟨k - 1, by omega⟩
      simp only [vary_Get.l0, ew]
      rw [if_pos (by omega), if_pos (by omega)]
      unfold getR
      rw [if_neg (by omega), if_pos he]
    · obtain ⟨c, hc⟩ := Int.eq_ofNat_of_zero_le (hb (a + i) hlt).1
      have hc' : c < 256 := by have := (hb (a + i) hlt).2; omega
      by_cases hbig : 128 ≤ c
      · have hacc : i + 1 ≤ 9 → Go.bits .or .u64 ((val b a i : Nat) : Int) (shl .u64 (IntKind.u64.wrap (Go.bits .and .u8 (rd b ((a + i : Nat) : Int)) 127)) (wrap64 (7 * (i : Int)))) = ((val b a (i + 1) : Nat) : Int) := fun h9 => by
          rw [hc, or_digit _ c i (val_lt b a i) hi hc' (by
            have e : (128 : Nat) ^ i ≤ 128 ^ 8 := Nat.pow_le_pow_right (by decide) (by omega)
            have := Nat.mul_le_mul (show c % 128 ≤ 127 by omega) e
            exact Nat.lt_of_le_of_lt this (by decide))]
          rw [val_succ, hc, Int.toNat_natCast]
        obtain ⟨n, hn, hk⟩ := ih (i + 1) _ (by omega) (by omega) (by omega) (fun j hj => by
          rcases Nat.lt_or_ge j i with h | h
          · exact h4 j h
          · obtain rfl : j = i := by omega
            exact ⟨hlt, by omega⟩) hacc
        refine ⟨n, hn, fun k hk' => ?_⟩
        obtain ⟨k, rfl⟩ : ∃ m, k = m + 1 := ⟨k - 1, by omega⟩
        simp only [vary_Get.l0, ew]
        rw [if_pos (by omega), if_neg (by omega), if_pos (by omega), if_pos (by omega), if_pos (by rw [wr_7 (by omega)]; omega), if_pos (by omega), wr_i (by omega)]
        exact hk k (by omega)
      · refine ⟨i, ⟨by omega, h4, .inr (.inr ⟨hlt, by omega⟩)⟩, fun k hk => ?_⟩
        obtain ⟨k, rfl⟩ : ∃ m, k = m + 1 := ⟨k - 1, by omega⟩
        have ew1 : wrap64 (((a + i : Nat) : Int) + 1) = ((a + i + 1 : Nat) : Int) := by unfold wrap64; omega
        simp only [vary_Get.l0, ew]
        rw [if_pos (by omega), if_neg (by omega), if_pos (by omega), if_pos (by omega), if_pos (by rw [wr_7 (by omega)]; omega), if_neg (by omega)]
        have hgood : ¬ (1 < rd b ((a + i : Nat) : Int) ∧ i = 9) → Go.bits .or .u64 ((val b a i : Nat) : Int) (shl .u64 (IntKind.u64.wrap (Go.bits .and .u8 (rd b ((a + i : Nat) : Int)) 127)) (wrap64 (7 * (i : Int)))) = ((val b a (i + 1) : Nat) : Int) := fun hg => by
          rw [hc, or_digit _ c i (val_lt b a i) hi hc' (by
            by_cases h9 : i = 9
            · subst h9
              have : c % 128 ≤ 1 := by omega
              have := Nat.mul_le_mul_right (128 ^ 9) this
              exact Nat.lt_of_le_of_lt this (by decide)
            · have e : (128 : Nat) ^ i ≤ 128 ^ 8 := Nat.pow_le_pow_right (by decide) (by omega)
              have := Nat.mul_le_mul (show c % 128 ≤ 127 by omega) e
              exact Nat.lt_of_le_of_lt this (by decide))]
          rw [val_succ, hc, Int.toNat_natCast]
        unfold getR
        rw [if_neg (show ¬ i = 10 by omega), if_neg (show ¬ a + i = b.length by omega)]
        by_cases c0 : rd b ((a + i : Nat) : Int) = 0
        · rw [if_pos c0]
          by_cases hi0 : 0 < i
          · rw [if_pos (by omega), if_pos (.inl ⟨c0, hi0⟩)]
          · rw [if_neg (by omega), if_neg (by omega), if_neg (by omega), hgood (by omega), ew1]
        · rw [if_neg c0]
          by_cases c1 : 1 < rd b ((a + i : Nat) : Int)
          · rw [if_pos (by omega)]
            by_cases h9 : i = 9
            · rw [if_pos (by omega), if_pos (.inr ⟨c1, h9⟩)]
            · rw [if_neg (by omega), if_neg (by omega), hgood (by omega), ew1]
          · rw [if_neg (by omega), if_neg (by omega), hgood (by omega), ew1]
theorem get_in (b : List Int) (hb : Rng b) (hlen : b.length ≤ 281474976710656) (a : Nat) (ha : a ≤ b.length) : ∃ n, Stop b a n ∧ ∀ k, 12 ≤ k → vary_Get.f k b (a : Int) = some (getR b a n) := by
  obtain ⟨n, hn, h⟩ := get_l0 b hb hlen a 10 0 0 (by omega) rfl (by omega) (fun j hj => by omega) (fun _ => by simp [val])
  refine ⟨n, hn, fun k hk => ?_⟩
  obtain ⟨k, rfl⟩ : ∃ m, k = m + 1 := ⟨k - 1, by omega⟩
  unfold vary_Get.f
  rw [if_neg (by omega), decide_eq_false (by omega)]
  simp only [vary_Get.j0, Bool.false_eq_true, if_false]
  exact h k (by omega)
theorem get_out (b : List Int) (a : Int) (ha : a < 0 ∨ (b.length : Int) < a) (k : Nat) (hk : 1 ≤ k) : vary_Get.f k b a = some (0, 0, 3) := by
  obtain ⟨k, rfl⟩ : ∃ m, k = m + 1 := ⟨k - 1, by omega⟩
  unfold vary_Get.f
  by_cases h : a < 0
  · rw [if_pos h]; simp only [vary_Get.j0, if_true]
  · rw [if_neg h, decide_eq_true (by omega)]; simp only [vary_Get.j0, if_true]
/-- what is put is got -/
theorem get_enc (x m : Nat) (hx : x < 2 ^ 64) (hc : Cnt x m) (b : List Int) (hb : Rng b) (hlen : b.length ≤ 281474976710656) (a : Nat) (ha : a + m ≤ b.length) (he : ∀ j, j < m → rd b ((a + j : Nat) : Int) = byt x m j) :
    ∀ k, 12 ≤ k → vary_Get.f k b (a : Int) = some ((x : Int), ((a + m : Nat) : Int), 0) := by
  obtain ⟨n, hn, h⟩ := get_in b hb hlen a (by omega)
  have hm1 := hc.1
  have hm2 := hc.2.1
  have htop := top_digit hc
  have hlast : rd b ((a + (m - 1) : Nat) : Int) = ((dgt x (m - 1) : Nat) : Int) := by rw [he (m - 1) (by omega)]; unfold byt; rw [if_neg (by omega)]
  have hd := dgt_lt x (m - 1)
  have hs : Stop b a (m - 1) := ⟨by omega, fun j hj => ⟨by omega, by rw [he j (by omega)]; unfold byt; rw [if_pos (by omega)]; omega⟩, .inr (.inr ⟨by omega, by omega⟩)⟩
  obtain rfl := hn.unique hs
  intro k hk
  rw [h k hk]
  unfold getR
  rw [if_neg (by omega), if_neg (by omega), if_neg, show m - 1 + 1 = m by omega, val_enc hc b a he]
  · congr 3; omega
  · rintro (⟨h1, h2⟩ | ⟨h1, h2⟩)
    · have := htop.2 (by omega); omega
    · have := top_ten hc hx (by omega)
      have e9 : dgt x (m - 1) = dgt x 9 := by rw [h2]
      omega
/-- cut short it is told so -/
theorem get_short (x m : Nat) (hc : Cnt x m) (b : List Int) (hb : Rng b) (i : Nat) (hi : i < m) (hl : b.length = i) (he : ∀ j, j < i → rd b ((j : Nat) : Int) = byt x m j) :
    ∀ k, 12 ≤ k → vary_Get.f k b 0 = some (0, 0, 5) := by
  have hm2 := hc.2.1
  obtain ⟨n, hn, h⟩ := get_in b hb (by omega) 0 (by omega)
  have hs : Stop b 0 i := ⟨by omega, fun j hj => ⟨by omega, by rw [Nat.zero_add, he j hj]; unfold byt; rw [if_pos (by omega)]; omega⟩, .inr (.inl (by omega))⟩
  obtain rfl := hn.unique hs
  intro k hk
  have := h k hk
  rw [show ((0 : Nat) : Int) = 0 from rfl] at this
  rw [this]
  unfold getR
  rw [if_neg (by omega), if_pos (by omega)]
theorem enc_rng (x m : Nat) : Rng (enc x m) := by
  intro i hi
  rw [enc_length] at hi
  rw [enc_rd x m i hi]
  exact byt_range x m i
/-! ### Zig and Zag -/
theorem xor_comm_ (k : IntKind) (a b : Int) : Go.bits .xor k a b = Go.bits .xor k b a := by
  show k.wrap ((BitVec.ofInt k.bits a ^^^ BitVec.ofInt k.bits b).toNat : Int) = k.wrap ((BitVec.ofInt k.bits b ^^^ BitVec.ofInt k.bits a).toNat : Int)
  rw [BitVec.xor_comm]
theorem wrapU64 (n : Int) : IntKind.u64.wrap n = n % 18446744073709551616 := by simp [IntKind.wrap, IntKind.bits, IntKind.signed]
theorem zig_spec (x : Int) (h0 : -9223372036854775808 ≤ x) (h1 : x ≤ 9223372036854775807) : vary_Zig.f x = some (if 0 ≤ x then 2 * x else -2 * x - 1) := by
  unfold vary_Zig.f
  by_cases hx : 0 ≤ x
  · rw [if_pos hx, show x / 9223372036854775808 = 0 by omega]
    have e1 : IntKind.u64.wrap (IntKind.u64.wrap x * 2) = (((2 * x).toNat : Nat) : Int) := by rw [wrapU64, wrapU64]; omega
    have e2 : IntKind.u64.wrap 0 = ((0 : Nat) : Int) := by decide
    rw [e1, e2, bits_xor_u64_nat _ _ (by omega) (by decide), Nat.xor_zero]
    exact congrArg some (by omega)
  · rw [if_neg hx, show x / 9223372036854775808 = -1 by omega]
    have e1 : IntKind.u64.wrap (IntKind.u64.wrap x * 2) = (((2 * x + 18446744073709551616).toNat : Nat) : Int) := by rw [wrapU64, wrapU64]; omega
    have e2 : IntKind.u64.wrap (-1) = ((2 ^ 64 - 1 : Nat) : Int) := by decide
    rw [e1, e2, xor_comm_, bits_xor_u64_nat _ _ (by decide) (by omega), Lib.xor_ones64 _ (by omega)]
    exact congrArg some (by omega)
theorem xor_i64_zero (a : Int) (h0 : 0 ≤ a) (h1 : a < 9223372036854775808) : Go.bits .xor .i64 a 0 = a := by
  show IntKind.i64.wrap ((BitVec.ofInt 64 a ^^^ BitVec.ofInt 64 0).toNat : Int) = _
  obtain ⟨n, rfl⟩ := Int.eq_ofNat_of_zero_le h0
  have h2 : (BitVec.ofInt 64 (n : Int)).toNat = n := by
    rw [BitVec.ofInt_natCast, BitVec.toNat_ofNat]; exact Nat.mod_eq_of_lt (by omega)
  have h3 : (BitVec.ofInt 64 0).toNat = 0 := by decide
  rw [BitVec.toNat_xor, h2, h3, Nat.xor_zero, IntKind.wrap_i64]
  omega
theorem zag_spec (u : Int) (h0 : 0 ≤ u) (h1 : u < 18446744073709551616) : vary_Zag.f u = some (if u % 2 = 0 then u / 2 else -(u / 2) - 1) := by
  unfold vary_Zag.f
  rw [Lib.u64_and1 u h0 h1]
  have e1 : wrap64 (u / 2) = u / 2 := by unfold wrap64; omega
  rw [e1]
  by_cases h : u % 2 = 0
  · rw [if_pos h, h, show wrap64 (-(wrap64 0)) = 0 by unfold wrap64; omega, xor_i64_zero _ (by omega) (by omega)]
  · rw [if_neg h, show u % 2 = 1 by omega, show wrap64 (-(wrap64 1)) = -1 by unfold wrap64; omega, xor_comm_]
    obtain ⟨n, hn⟩ := Int.eq_ofNat_of_zero_le (show 0 ≤ u / 2 by omega)
    rw [hn, Lib.i64_not n (by omega)]
/-! ### the document's Put -/
theorem enc_step {x m : Nat} (hx : 128 ≤ x) (h : Cnt x m) : 2 ≤ m ∧ Cnt (x / 128) (m - 1) ∧ enc x m = ((128 + x % 128 : Nat) : Int) :: enc (x / 128) (m - 1) := by
  obtain ⟨h1, h2, h3, h4⟩ := h
  have hm : 2 ≤ m := by
    rcases Nat.lt_or_ge m 2 with h | h
    · obtain rfl : m = 1 := by omega
      omega
    · exact h
  obtain ⟨n, rfl⟩ : ∃ n, m = n + 2 := ⟨m - 2, by omega⟩
  have e1 : n + 2 - 1 = n + 1 := by omega
  rw [e1] at h4 ⊢
  refine ⟨hm, ⟨by omega, by omega, ?_, ?_⟩, ?_⟩
  · rw [Nat.div_lt_iff_lt_mul (by decide), ← Nat.pow_succ]; exact h3
  · rcases h4 with h4 | h4
    · omega
    · rcases Nat.eq_zero_or_pos n with rfl | hn
      · exact .inl rfl
      · refine .inr ?_
        rw [Nat.le_div_iff_mul_le (by decide), ← Nat.pow_succ]
        exact Nat.le_trans (Nat.pow_le_pow_right (by decide) (by omega)) h4
  · have hd : ∀ j, dgt (x / 128) j = dgt x (j + 1) := fun j => by unfold dgt; rw [Nat.div_div_eq_div_mul, Nat.pow_succ, Nat.mul_comm]
    unfold enc
    rw [List.range_succ_eq_map, List.map_cons, List.map_map]
    congr 1
    · unfold byt dgt
      rw [if_pos (by omega)]
      simp
    · apply List.map_congr_left
      intro j _
      show byt x (n + 2) (j + 1) = byt (x / 128) (n + 1) j
      unfold byt
      rw [hd j]
      by_cases h : j + 1 < n + 1
      · rw [if_pos (by omega), if_pos h]
      · rw [if_neg (by omega), if_neg h]
theorem refput_l0 (d : Nat) : ∀ (x m : Nat) (out : List Int) (k : Nat), x < 2 ^ 64 → Cnt x m → m = d → d < k → out.length + m ≤ 100 →
    cuecardref02_Put.l0 k (x : Int) out = some (out ++ enc x m) := by
  induction d with
  | zero => intro x m out k _ h hd; have := h.1; omega
  | succ d ih =>
    intro x m out k hx h hd hk hl
    obtain ⟨k, rfl⟩ : ∃ m, k = m + 1 := ⟨k - 1, by omega⟩
    simp only [cuecardref02_Put.l0]
    by_cases hx1 : 128 ≤ x
    · obtain ⟨h1, h2, h3⟩ := enc_step hx1 h
      have e1 : IntKind.u64.wrap (Int.tdiv (x : Int) 128) = ((x / 128 : Nat) : Int) := by rw [Int.tdiv_eq_ediv_of_nonneg (by omega), wrapsU64 _ (by omega) (by omega)]; omega
      have e2 : IntKind.u64.wrap (128 + Int.tmod (x : Int) 128) % 256 = ((128 + x % 128 : Nat) : Int) := by rw [Int.tmod_eq_emod_of_nonneg (by omega), wrapsU64 _ (by omega) (by omega)]; omega
      rw [if_pos (by omega), if_pos (by omega), e1, e2, ih (x / 128) (m - 1) _ k (by omega) h2 (by omega) (by omega) (by simp; omega), h3]
      simp
    · have hm : m = 1 := by
        rcases h.2.2.2 with h4 | h4
        · exact h4
        · by_cases e : m = 1
          · exact e
          · have := Nat.pow_le_pow_right (show 0 < 128 by decide) (show 1 ≤ m - 1 by have := h.1; omega)
            omega
      subst hm
      rw [if_neg (by omega), if_pos (by omega)]
      have : enc x 1 = [(x : Int)] := by
        unfold enc byt dgt
        simp
        omega
      rw [this, show (x : Int) % 256 = (x : Int) by omega]
theorem refput_f (x m : Nat) (hx : x < 2 ^ 64) (h : Cnt x m) (k : Nat) (hk : 12 ≤ k) : cuecardref02_Put.f k (x : Int) = some (enc x m) := by
  unfold cuecardref02_Put.f
  have := h.2.1
  rw [refput_l0 m x m [] k hx h rfl (by omega) (by simp; omega)]
  simp
theorem refzig_spec (x : Int) (h0 : -9223372036854775808 ≤ x) (h1 : x ≤ 9223372036854775807) : cuecardref02_Zig.f x = some (if 0 ≤ x then 2 * x else -2 * x - 1) := by
  unfold cuecardref02_Zig.f
  by_cases hx : 0 ≤ x
  · rw [if_pos (by omega), if_pos hx, wrapU64, wrapU64]
    exact congrArg some (by omega)
  · rw [if_neg (by omega), if_neg hx]
    have e : wrap64 (-(wrap64 (x + 1))) = -x - 1 := by unfold wrap64; omega
    rw [e, wrapU64, wrapU64, wrapU64]
    exact congrArg some (by omega)
theorem refzag_spec (u : Int) (h0 : 0 ≤ u) (h1 : u < 18446744073709551616) : cuecardref02_Zag.f u = some (if u % 2 = 0 then u / 2 else -(u / 2) - 1) := by
  unfold cuecardref02_Zag.f
  rw [Int.tmod_eq_emod_of_nonneg h0, Int.tdiv_eq_ediv_of_nonneg h0, wrapU64, show (u / 2) % 18446744073709551616 = u / 2 by omega]
  by_cases h : u % 2 = 0
  · rw [if_pos h, if_pos h]
    exact congrArg some (by unfold wrap64; omega)
  · rw [if_neg h, if_neg h]
    exact congrArg some (by unfold wrap64; omega)
theorem zig_zag (x : Int) (h0 : -9223372036854775808 ≤ x) (h1 : x ≤ 9223372036854775807) : ∃ u, vary_Zig.f x = some u ∧ vary_Zag.f u = some x := by
  refine ⟨_, zig_spec x h0 h1, ?_⟩
  by_cases h : 0 ≤ x
  · rw [if_pos h, zag_spec _ (by omega) (by omega), if_pos (by omega)]; exact congrArg some (by omega)
  · rw [if_neg h, zag_spec _ (by omega) (by omega), if_neg (by omega)]; exact congrArg some (by omega)
theorem zag_zig (u : Int) (h0 : 0 ≤ u) (h1 : u < 18446744073709551616) : ∃ x, vary_Zag.f u = some x ∧ vary_Zig.f x = some u := by
  refine ⟨_, zag_spec u h0 h1, ?_⟩
  by_cases h : u % 2 = 0
  · rw [if_pos h, zig_spec _ (by omega) (by omega), if_pos (by omega)]; exact congrArg some (by omega)
  · rw [if_neg h, zig_spec _ (by omega) (by omega), if_neg (by omega)]; exact congrArg some (by omega)
theorem get_good (b : List Int) (hb : Rng b) (a n : Nat) (hs : Stop b a n) (h10 : n ≠ 10) (hl : a + n ≠ b.length) (hc : ¬ ((rd b ((a + n : Nat) : Int) = 0 ∧ 0 < n) ∨ (1 < rd b ((a + n : Nat) : Int) ∧ n = 9))) :
    n ≤ 9 ∧ a + n < b.length ∧ val b a (n + 1) < 2 ^ 64 ∧ Cnt (val b a (n + 1)) (n + 1) ∧ ∀ j, j < n + 1 → rd b ((a + j : Nat) : Int) = byt (val b a (n + 1)) (n + 1) j := by
  obtain ⟨h1, h2, h3⟩ := hs
  have hlt : a + n < b.length ∧ rd b ((a + n : Nat) : Int) < 128 := by
    rcases h3 with h3 | h3 | h3
    · exact absurd h3 h10
    · exact absurd h3 hl
    · exact h3
  have hr := hb (a + n) hlt.1
  have ho := own_bytes b a n (by omega) (fun j hj => ⟨(h2 j hj).2, (hb (a + j) (h2 j hj).1).2⟩) hr.1 hlt.2 (fun e => by omega)
  refine ⟨by omega, hlt.1, ?_, ho⟩
  rw [val_succ]
  have hv := val_lt b a n
  by_cases h9 : n = 9
  · subst h9
    have : (rd b ((a + 9 : Nat) : Int)).toNat % 128 ≤ 1 := by omega
    have := Nat.mul_le_mul_right (128 ^ 9) this
    have e : (128 : Nat) ^ 9 + 1 * 128 ^ 9 ≤ 2 ^ 64 := by decide
    omega
  · have e : (128 : Nat) ^ n ≤ 128 ^ 8 := Nat.pow_le_pow_right (by decide) (by omega)
    have h7 : (rd b ((a + n : Nat) : Int)).toNat % 128 ≤ 127 := by omega
    have := Nat.mul_le_mul h7 e
    have e2 : (128 : Nat) ^ 8 + 127 * 128 ^ 8 < 2 ^ 64 := by decide
    omega
end Va
end Go.Proofs.Ytefippbcgdfnbaa.QA
