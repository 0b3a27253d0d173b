import Derived.Test.YtefippbcgdfnbaaGEv
import Derived.Test.YtefippbcgdfnbaaQAx2
import Derived.Test.YtefippbcgdfnbaaQAx3
import Derived.Test.YtefippbcgdfnbaaQAx4
import Derived.Test.YtefippbcgdfnbaaQAx5
import Derived.Test.YtefippbcgdfnbaaQAx6
import Derived.Test.YtefippbcgdfnbaaQAx8
import Derived.Test.YtefippbcgdfnbaaQAx10
import Derived.Test.YtefippbcgdfnbaaQAx12
import Derived.Test.YtefippbcgdfnbaaQAx13
import Derived.Test.YtefippbcgdfnbaaQAx14
import Derived.Test.YtefippbcgdfnbaaQAx15
import Derived.Test.YtefippbcgdfnbaaQAx16
import Derived.Test.YtefippbcgdfnbaaQAx20
import Derived.Test.YtefippbcgdfnbaaQAx21
import Derived.Test.YtefippbcgdfnbaaQAx22
import Derived.Lib.Zigzag
import Derived.Lib.Hide
import Derived.Lib.Bytes
namespace Go.Proofs.Ytefippbcgdfnbaa.QA
open Go.RowKit Go.Proofs.YtefippbcgdfnbaaW.PrintWords Go.Proofs.YtefippbcgdfnbaaW.PrintLast Go.Proofs.YtefippbcgdfnbaaW.PrintMore
set_option linter.unusedVariables false
set_option linter.unusedSimpArgs false
namespace Va
/-! ### numbers, without the program -/
/-- digit i to the base 128 -/
def dgt (x i : Nat) : Nat := x / 128 ^ i % 128
/-- m bytes for x -/
def Cnt (x m : Nat) : Prop := 1 ≤ m ∧ m ≤ 10 ∧ x < 128 ^ m ∧ (m = 1 ∨ 128 ^ (m - 1) ≤ x)
/-- byte i of the m bytes of x -/
def byt (x m i : Nat) : Int := if i + 1 < m then ((128 + dgt x i : Nat) : Int) else ((dgt x i : Nat) : Int)
def enc (x m : Nat) : List Int := (List.range m).map (byt x m)
theorem enc_length (x m : Nat) : (enc x m).length = m := by simp [enc]
theorem enc_rd (x m i : Nat) (h : i < m) : rd (enc x m) (i : Int) = byt x m i := by
  unfold rd enc
  rw [Int.toNat_natCast, List.getD_eq_getElem?_getD, List.getElem?_map, List.getElem?_range h]
  rfl
theorem dgt_lt (x i : Nat) : dgt x i < 128 := Nat.mod_lt _ (by decide)
theorem pow128 (i : Nat) : (128 : Nat) ^ i = 2 ^ (7 * i) := by
  rw [show (128 : Nat) = 2 ^ 7 from rfl, ← Nat.pow_mul]
theorem pow128_pos (i : Nat) : 0 < (128 : Nat) ^ i := Nat.pow_pos (by decide)
theorem Cnt.unique {x m n : Nat} (h : Cnt x m) (k : Cnt x n) : m = n := by
  obtain ⟨h1, h2, h3, h4⟩ := h
  obtain ⟨k1, k2, k3, k4⟩ := k
  rcases Nat.lt_trichotomy m n with hlt | rfl | hlt
  · rcases k4 with rfl | k4
    · omega
    · exact absurd (Nat.lt_of_lt_of_le h3 (Nat.pow_le_pow_right (by decide) (show m ≤ n - 1 by omega))) (by omega)
  · rfl
  · rcases h4 with rfl | h4
    · omega
    · exact absurd (Nat.lt_of_lt_of_le k3 (Nat.pow_le_pow_right (by decide) (show n ≤ m - 1 by omega))) (by omega)
theorem wr_i {i : Nat} (h : i < 4611686018427387904) : wrap64 ((i : Int) + 1) = ((i + 1 : Nat) : Int) := by unfold wrap64; omega
theorem wr_7 {i : Nat} (h : i ≤ 10) : wrap64 (7 * (i : Int)) = ((7 * i : Nat) : Int) := by unfold wrap64; omega
theorem or128 (a : Nat) (h : a < 256) : Go.bits .or .u8 (a : Int) 128 = ((128 + a % 128 : Nat) : Int) := by
  have key : ∀ a : Fin 256, Go.bits .or .u8 ((a.val : Nat) : Int) 128 = ((128 + a.val % 128 : Nat) : Int) := by decide +kernel
  exact key ⟨a, h⟩
theorem and127 (a : Nat) (h : a < 256) : Go.bits .and .u8 (a : Int) 127 = ((a % 128 : Nat) : Int) := by
  have key : ∀ a : Fin 256, Go.bits .and .u8 ((a.val : Nat) : Int) 127 = ((a.val % 128 : Nat) : Int) := by decide +kernel
  exact key ⟨a, h⟩
theorem shr7 (x i : Nat) (h : i ≤ 9) : shr .u64 (x : Int) ((7 * i : Nat) : Int) = ((x / 128 ^ i : Nat) : Int) := by
  unfold shr
  rw [Int.toNat_natCast, Nat.min_eq_left (show 7 * i ≤ IntKind.u64.bits by show 7 * i ≤ 64; omega), pow128]
  push_cast
  rfl
theorem wrapsU64 (n : Int) (h₀ : 0 ≤ n) (h₁ : n < 2 ^ 64) : IntKind.u64.wrap n = n := by
  have : IntKind.u64.wrap n = n % 2 ^ 64 := by simp [IntKind.wrap, IntKind.bits, IntKind.signed]
  rw [this]; omega
theorem put_byte (x i : Nat) (h : i ≤ 9) : Go.bits .or .u8 ((shr .u64 (x : Int) (wrap64 (7 * (i : Int)))) % 256) 128 = ((128 + dgt x i : Nat) : Int) := by
  rw [wr_7 (by omega), shr7 x i h, show (((x / 128 ^ i : Nat) : Int) % 256) = ((x / 128 ^ i % 256 : Nat) : Int) by omega, or128 _ (Nat.mod_lt _ (by decide))]
  unfold dgt
  congr 2
  omega
/-- a digit joins what is below it -/
theorem or_digit (acc c i : Nat) (hacc : acc < 128 ^ i) (hi : i ≤ 9) (hc : c < 256) (hf : c % 128 * 128 ^ i < 2 ^ 64) :
    Go.bits .or .u64 (acc : Int) (shl .u64 (IntKind.u64.wrap (Go.bits .and .u8 (c : Int) 127)) (wrap64 (7 * (i : Int)))) = ((acc + c % 128 * 128 ^ i : Nat) : Int) := by
  have h64 : (128 : Nat) ^ i ≤ 2 ^ 63 := by rw [pow128]; exact Nat.pow_le_pow_right (by decide) (by omega)
  rw [and127 c hc, wrapsU64 _ (by omega) (by omega), wr_7 (by omega)]
  unfold shl
  rw [Int.toNat_natCast, Nat.min_eq_left (show 7 * i ≤ IntKind.u64.bits by show 7 * i ≤ 64; omega)]
  have e : ((c % 128 : Nat) : Int) * 2 ^ (7 * i) = ((c % 128 * 128 ^ i : Nat) : Int) := by rw [pow128]; push_cast; rfl
  rw [e, wrapsU64 _ (by omega) (by exact_mod_cast hf)]
  rw [(bits_nat .u64 64 (by decide) wrapsU64 acc (c % 128 * 128 ^ i) (by omega) hf).2]
  congr 1
  rw [pow128] at hacc ⊢
  rw [Nat.mul_comm (c % 128), Nat.or_comm, ← Nat.two_pow_add_eq_or_of_lt hacc, Nat.add_comm]
/-- the value of n bytes that stand at a place -/
def val (b : List Int) (a : Nat) : Nat → Nat
  | 0 => 0
  | n + 1 => val b a n + (rd b ((a + n : Nat) : Int)).toNat % 128 * 128 ^ n
theorem val_succ (b : List Int) (a n : Nat) : val b a (n + 1) = val b a n + (rd b ((a + n : Nat) : Int)).toNat % 128 * 128 ^ n := rfl
theorem val_lt (b : List Int) (a n : Nat) : val b a n < 128 ^ n := by
  induction n with
  | zero => simp [val]
  | succ n ih =>
    unfold val
    have h1 : (rd b ((a + n : Nat) : Int)).toNat % 128 ≤ 127 := by omega
    have h2 : (rd b ((a + n : Nat) : Int)).toNat % 128 * 128 ^ n ≤ 127 * 128 ^ n := Nat.mul_le_mul_right _ h1
    rw [Nat.pow_succ]
    omega
theorem val_congr (b c : List Int) (a d n : Nat) (h : ∀ j, j < n → rd b ((a + j : Nat) : Int) = rd c ((d + j : Nat) : Int)) : val b a n = val c d n := by
  induction n with
  | zero => rfl
  | succ n ih => unfold val; rw [ih (fun j hj => h j (by omega)), h n (by omega)]
theorem mod_pow_step (x n : Nat) : x % 128 ^ n + x / 128 ^ n % 128 * 128 ^ n = x % 128 ^ (n + 1) := by
  rw [Nat.pow_succ, Nat.mod_mul, Nat.mul_comm (128 ^ n)]
theorem val_digits (b : List Int) (a x : Nat) : ∀ n, (∀ j, j < n → (rd b ((a + j : Nat) : Int)).toNat % 128 = dgt x j) → val b a n = x % 128 ^ n := by
  intro n
  induction n with
  | zero => intro _; simp [val, Nat.mod_one]
  | succ n ih =>
    intro h
    unfold val
    rw [ih (fun j hj => h j (by omega)), h n (by omega)]
    exact mod_pow_step x n
theorem digits_val (b : List Int) (a : Nat) : ∀ n j, j < n → dgt (val b a n) j = (rd b ((a + j : Nat) : Int)).toNat % 128 := by
  intro n
  induction n with
  | zero => intro j hj; omega
  | succ n ih =>
    intro j hj
    unfold val dgt
    rcases Nat.lt_or_ge j n with h | h
    · rw [← ih j h]
      unfold dgt
      have : (128 : Nat) ^ n = 128 ^ j * (128 * 128 ^ (n - j - 1)) := by
        rw [← Nat.pow_succ', ← Nat.pow_add]; congr 1; omega
      rw [this, ← Nat.mul_assoc, Nat.mul_comm _ (128 ^ j), Nat.mul_assoc, Nat.mul_comm (128 ^ j), Nat.add_mul_div_right _ _ (pow128_pos j)]
      rw [← Nat.mul_assoc, Nat.mul_comm _ 128, Nat.mul_assoc, Nat.add_mul_mod_self_left]
    · obtain rfl : j = n := by omega
      rw [Nat.add_mul_div_right _ _ (pow128_pos j), Nat.div_eq_of_lt (val_lt b a j)]
      omega
theorem byt_mod (x m i : Nat) : (byt x m i).toNat % 128 = dgt x i := by
  have := dgt_lt x i
  unfold byt
  split <;> (rw [Int.toNat_natCast]; omega)
theorem byt_range (x m i : Nat) : 0 ≤ byt x m i ∧ byt x m i < 256 := by
  have := dgt_lt x i
  unfold byt
  split <;> omega
/-- the last digit of a number is 0 just if it is 0 -/
theorem top_digit {x m : Nat} (h : Cnt x m) : dgt x (m - 1) = x / 128 ^ (m - 1) ∧ (dgt x (m - 1) = 0 → m = 1) := by
  obtain ⟨h1, h2, h3, h4⟩ := h
  have e : 128 ^ m = 128 ^ (m - 1) * 128 := by rw [← Nat.pow_succ]; congr 1; omega
  have hd : x / 128 ^ (m - 1) < 128 := by rw [Nat.div_lt_iff_lt_mul (pow128_pos _)]; rw [e] at h3; rw [Nat.mul_comm]; exact h3
  have e2 : dgt x (m - 1) = x / 128 ^ (m - 1) := Nat.mod_eq_of_lt hd
  refine ⟨e2, fun h0 => ?_⟩
  rcases h4 with h4 | h4
  · exact h4
  · have : 1 ≤ x / 128 ^ (m - 1) := (Nat.le_div_iff_mul_le (pow128_pos _)).2 (by omega)
    omega
theorem Cnt.exists (x : Nat) (h : x < 2 ^ 64) : ∃ m, Cnt x m := by
  have key : ∀ m, x < 128 ^ m → m ≤ 10 → ∃ n, Cnt x n := by
    intro m
    induction m with
    | zero => intro h _; exact ⟨1, by omega, by omega, by simp at h ⊢; omega, .inl rfl⟩
    | succ m ih =>
      intro h hm
      rcases Nat.lt_or_ge x (128 ^ m) with hx | hx
      · exact ih hx (by omega)
      · exact ⟨m + 1, by omega, hm, h, .inr (by simpa using hx)⟩
  exact key 10 (Nat.lt_of_lt_of_le h (by decide)) (by omega)
/-- with ten bytes the last digit is 1 -/
theorem top_ten {x m : Nat} (h : Cnt x m) (hx : x < 2 ^ 64) (h10 : m = 10) : dgt x 9 ≤ 1 := by
  subst h10
  have e := (top_digit h).1
  have : x / 128 ^ 9 < 2 := by rw [Nat.div_lt_iff_lt_mul (pow128_pos _)]; exact Nat.lt_of_lt_of_le hx (by decide)
  simp at e
  omega
/-- the bytes that tell a number are just its own -/
theorem own_bytes (b : List Int) (a n : Nat) (hn : n ≤ 9) (hb : ∀ j, j < n → 128 ≤ rd b ((a + j : Nat) : Int) ∧ rd b ((a + j : Nat) : Int) < 256) (h0 : 0 ≤ rd b ((a + n : Nat) : Int)) (h1 : rd b ((a + n : Nat) : Int) < 128)
    (hz : rd b ((a + n : Nat) : Int) = 0 → n = 0) : Cnt (val b a (n + 1)) (n + 1) ∧ ∀ j, j < n + 1 → rd b ((a + j : Nat) : Int) = byt (val b a (n + 1)) (n + 1) j := by
  refine ⟨⟨by omega, by omega, val_lt _ _ _, ?_⟩, fun j hj => ?_⟩
  · rcases Nat.eq_zero_or_pos n with h | h
    · exact .inl (by omega)
    · refine .inr ?_
      simp only [Nat.add_sub_cancel]
      unfold val
      have : 1 ≤ (rd b ((a + n : Nat) : Int)).toNat % 128 := by
        have : rd b ((a + n : Nat) : Int) ≠ 0 := fun e => by have := hz e; omega
        omega
      have := Nat.mul_le_mul_right (128 ^ n) this
      omega
  · unfold byt
    rw [digits_val b a (n + 1) j hj]
    rcases Nat.lt_or_ge j n with h | h
    · rw [if_pos (by omega)]
      have := hb j h
      omega
    · obtain rfl : j = n := by omega
      rw [if_neg (by omega)]
      omega
theorem val_enc {x m : Nat} (h : Cnt x m) (b : List Int) (a : Nat) (hb : ∀ j, j < m → rd b ((a + j : Nat) : Int) = byt x m j) : val b a m = x := by
  rw [val_digits b a x m (fun j hj => by rw [hb j hj, byt_mod])]
  exact Nat.mod_eq_of_lt h.2.2.1
theorem ten_lt : (128 : Nat) ^ 10 = 2 ^ 70 := by decide
theorem list_ext_rd {b c : List Int} (hl : b.length = c.length) (h : ∀ j, j < b.length → rd b (j : Int) = rd c (j : Int)) : b = c := by
  refine List.ext_getElem hl fun j h1 h2 => ?_
  have := h j h1
  unfold rd at this
  simpa [List.getD_eq_getElem?_getD, List.getElem?_eq_getElem h1, List.getElem?_eq_getElem h2] using this
def len8 : ByteArray := ⟨#[0, 1, 2, 2, 3, 3, 3, 3, 4, 4, 4, 4, 4, 4, 4, 4, 5, 5, 5, 5, 5, 5, 5, 5, 5, 5, 5, 5, 5, 5, 5, 5, 6, 6, 6, 6, 6, 6, 6, 6, 6, 6, 6, 6, 6, 6, 6, 6, 6, 6, 6, 6, 6, 6, 6, 6, 6, 6, 6, 6, 6, 6, 6, 6, 7, 7, 7, 7, 7, 7, 7, 7, 7, 7, 7, 7, 7, 7, 7, 7, 7, 7, 7, 7, 7, 7, 7, 7, 7, 7, 7, 7, 7, 7, 7, 7, 7, 7, 7, 7, 7, 7, 7, 7, 7, 7, 7, 7, 7, 7, 7, 7, 7, 7, 7, 7, 7, 7, 7, 7, 7, 7, 7, 7, 7, 7, 7, 7, 8, 8, 8, 8, 8, 8, 8, 8, 8, 8, 8, 8, 8, 8, 8, 8, 8, 8, 8, 8, 8, 8, 8, 8, 8, 8, 8, 8, 8, 8, 8, 8, 8, 8, 8, 8, 8, 8, 8, 8, 8, 8, 8, 8, 8, 8, 8, 8, 8, 8, 8, 8, 8, 8, 8, 8, 8, 8, 8, 8, 8, 8, 8, 8, 8, 8, 8, 8, 8, 8, 8, 8, 8, 8, 8, 8, 8, 8, 8, 8, 8, 8, 8, 8, 8, 8, 8, 8, 8, 8, 8, 8, 8, 8, 8, 8, 8, 8, 8, 8, 8, 8, 8, 8, 8, 8, 8, 8, 8, 8, 8, 8, 8, 8, 8, 8, 8, 8, 8, 8, 8, 8, 8, 8, 8, 8, 8, 8]⟩
/-! ### bits.Len64, vary.Put -/
theorem len8_spec (v : Nat) (h : v < 256) : ∃ l : Nat, bt len8 (v : Int) = (l : Int) ∧ l ≤ 8 ∧ v < 2 ^ l ∧ (l = 0 ∨ 2 ^ (l - 1) ≤ v) := by
  have key : ∀ v : Fin 256, ∃ l : Fin 9, bt len8 ((v.val : Nat) : Int) = ((l.val : Nat) : Int) ∧ v.val < 2 ^ l.val ∧ (l.val = 0 ∨ 2 ^ (l.val - 1) ≤ v.val) := by decide +kernel
  obtain ⟨l, h1, h2, h3⟩ := key ⟨v, h⟩
  exact ⟨l.val, h1, by omega, h2, h3⟩
theorem shifted {y s l : Nat} (h : y / 2 ^ s < 2 ^ l) (h' : l = 0 ∨ 2 ^ (l - 1) ≤ y / 2 ^ s) (h0 : 0 < y / 2 ^ s) : y < 2 ^ (s + l) ∧ (s + l = 0 ∨ 2 ^ (s + l - 1) ≤ y) := by
  have hl : 0 < l := by
    rcases Nat.eq_zero_or_pos l with rfl | hl
    · simp at h; simp at h0; omega
    · exact hl
  constructor
  · rw [Nat.div_lt_iff_lt_mul (Nat.two_pow_pos s)] at h
    rw [Nat.pow_add, Nat.mul_comm]; exact h
  · refine .inr ?_
    rcases h' with h' | h'
    · omega
    · rw [Nat.le_div_iff_mul_le (Nat.two_pow_pos s), ← Nat.pow_add] at h'
      rw [show s + l - 1 = l - 1 + s by omega]; exact h'
theorem wr_a (n l : Nat) (hn : n ≤ 32) (hl : l ≤ 8) : wrap64 ((wrap64 ((wrap64 ((n : Int) + 16)) + 8)) + wrap64 (l : Int)) = ((n + (24 + l) : Nat) : Int) := by unfold wrap64; omega
theorem wr_b (n l : Nat) (hn : n ≤ 32) (hl : l ≤ 8) : wrap64 ((wrap64 ((n : Int) + 16)) + wrap64 (l : Int)) = ((n + (16 + l) : Nat) : Int) := by unfold wrap64; omega
theorem wr_c (n l : Nat) (hn : n ≤ 32) (hl : l ≤ 8) : wrap64 ((wrap64 ((n : Int) + 8)) + wrap64 (l : Int)) = ((n + (8 + l) : Nat) : Int) := by unfold wrap64; omega
theorem wr_d (n l : Nat) (hn : n ≤ 32) (hl : l ≤ 8) : wrap64 ((n : Int) + wrap64 (l : Int)) = ((n + l : Nat) : Int) := by unfold wrap64; omega
set_option maxRecDepth 100000 in
theorem len_j0 (y n : Nat) (hy : y < 4294967296) (hn : n ≤ 32) : ∃ l : Nat, l ≤ 32 ∧ y < 2 ^ l ∧ (l = 0 ∨ 2 ^ (l - 1) ≤ y) ∧ ∀ k, bits_Len64.j0 (k + 1) (y : Int) (n : Int) = some ((n + l : Nat) : Int) := by
  by_cases h1 : 65536 ≤ y
  · by_cases h2 : 16777216 ≤ y
    · obtain ⟨l, e, h3, h4, h5⟩ := len8_spec (y / 2 ^ 24) (by omega)
      have hs := shifted h4 h5 (by omega)
      refine ⟨24 + l, by omega, hs.1, hs.2, fun k => ?_⟩
      rw [bits_Len64.j0]
      rw [if_pos (by omega), if_pos (by omega), if_pos (by omega), if_pos (by omega)]
      rw [← len8.eq_1, show ((((y : Int) / 65536) / 256) % 256) = ((y / 2 ^ 24 : Nat) : Int) by omega, e]
      rw [wr_a n l hn h3]
    · obtain ⟨l, e, h3, h4, h5⟩ := len8_spec (y / 2 ^ 16) (by omega)
      have hs := shifted h4 h5 (by omega)
      refine ⟨16 + l, by omega, hs.1, hs.2, fun k => ?_⟩
      rw [bits_Len64.j0]
      rw [if_pos (by omega), if_neg (by omega), if_pos (by omega), if_pos (by omega)]
      rw [← len8.eq_1, show (((y : Int) / 65536) % 256) = ((y / 2 ^ 16 : Nat) : Int) by omega, e]
      rw [wr_b n l hn h3]
  · by_cases h2 : 256 ≤ y
    · obtain ⟨l, e, h3, h4, h5⟩ := len8_spec (y / 2 ^ 8) (by omega)
      have hs := shifted h4 h5 (by omega)
      refine ⟨8 + l, by omega, hs.1, hs.2, fun k => ?_⟩
      rw [bits_Len64.j0]
      rw [if_neg (by omega), if_pos (by omega), if_pos (by omega), if_pos (by omega)]
      rw [← len8.eq_1, show (((y : Int) / 256) % 256) = ((y / 2 ^ 8 : Nat) : Int) by omega, e]
      rw [wr_c n l hn h3]
    · obtain ⟨l, e, h3, h4, h5⟩ := len8_spec y (by omega)
      refine ⟨l, by omega, h4, h5, fun k => ?_⟩
      rw [bits_Len64.j0]
      rw [if_neg (by omega), if_neg (by omega), if_pos (by omega), if_pos (by omega)]
      rw [← len8.eq_1, show ((y : Int) % 256) = ((y : Nat) : Int) by omega, e]
      rw [wr_d n l hn h3]
theorem len_f (x : Nat) (hx : x < 2 ^ 64) : ∃ l : Nat, l ≤ 64 ∧ x < 2 ^ l ∧ (l = 0 ∨ 2 ^ (l - 1) ≤ x) ∧ ∀ k, bits_Len64.f (k + 1) (x : Int) = some ((l : Nat) : Int) := by
  unfold bits_Len64.f
  by_cases h : 4294967296 ≤ x
  · obtain ⟨l, h1, h2, h3, h4⟩ := len_j0 (x / 2 ^ 32) 32 (by omega) (by omega)
    have hs := shifted h2 h3 (by omega)
    refine ⟨32 + l, by omega, hs.1, hs.2, fun k => ?_⟩
    rw [if_pos (by omega), show ((x : Int) / 4294967296) = ((x / 2 ^ 32 : Nat) : Int) by omega]
    exact h4 k
  · obtain ⟨l, h1, h2, h3, h4⟩ := len_j0 x 0 (by omega) (by omega)
    refine ⟨l, by omega, h2, h3, fun k => ?_⟩
    rw [if_neg (by omega)]
    have := h4 k
    simpa using this
/-- how many bytes -/
theorem cnt_of_len {x l : Nat} (hl : l ≤ 64) (h1 : x < 2 ^ l) (h2 : l = 0 ∨ 2 ^ (l - 1) ≤ x) : Cnt x (max 1 ((l + 6) / 7)) := by
  refine ⟨by omega, by omega, ?_, ?_⟩
  · rw [pow128]
    exact Nat.lt_of_lt_of_le h1 (Nat.pow_le_pow_right (by decide) (by omega))
  · by_cases h : l ≤ 7
    · exact .inl (by omega)
    · refine .inr ?_
      rcases h2 with h2 | h2
      · omega
      · rw [pow128]
        exact Nat.le_trans (Nat.pow_le_pow_right (by decide) (by omega)) h2
/-- the bytes behind i rounds -/
def half (x m i : Nat) : List Int := (List.range m).map fun j => if j < i then ((128 + dgt x j : Nat) : Int) else 0
theorem half_length (x m i : Nat) : (half x m i).length = m := by simp [half]
theorem half_set (x m i : Nat) : (half x m i).set i ((128 + dgt x i : Nat) : Int) = half x m (i + 1) := by
  apply List.ext_getElem
  · simp [half]
  · intro j h1 h2
    simp only [half, List.getElem_set, List.getElem_map, List.getElem_range]
    by_cases e : i = j
    · subst e; rw [if_pos rfl, if_pos (by omega)]
    · rw [if_neg e]
      by_cases hj : j < i
      · rw [if_pos hj, if_pos (by omega)]
      · rw [if_neg hj, if_neg (by omega)]
theorem half_end (x m : Nat) (hm : 1 ≤ m) : (half x m m).set (m - 1) ((dgt x (m - 1) : Nat) : Int) = enc x m := by
  apply List.ext_getElem
  · simp [half, enc]
  · intro j h1 h2
    have hj : j < m := by simpa [enc] using h2
    simp only [half, enc, byt, List.getElem_set, List.getElem_map, List.getElem_range]
    by_cases e : m - 1 = j
    · subst e; rw [if_pos rfl, if_neg (by omega)]
    · rw [if_neg e, if_pos (by omega), if_pos (by omega)]
theorem put_l0 (x m : Nat) (hm : 1 ≤ m) (hm' : m ≤ 10) (d : Nat) : ∀ (k i : Nat), i ≤ m → m - i = d → d < k →
    vary_Put.l0 k (x : Int) (m : Int) (half x m i) (m : Int) (i : Int) = some (enc x m) := by
  induction d with
  | zero =>
    intro k i h1 h2 hk
    obtain ⟨k, rfl⟩ : ∃ m, k = m + 1 := ⟨k - 1, by omega⟩
    obtain rfl : i = m := by omega
    have e1 : wrap64 ((i : Int) - 1) = ((i - 1 : Nat) : Int) := by unfold wrap64; omega
    have hr : rd (half x i i) ((i - 1 : Nat) : Int) = ((128 + dgt x (i - 1) : Nat) : Int) := by
      unfold rd half
      rw [Int.toNat_natCast, List.getD_eq_getElem?_getD, List.getElem?_map, List.getElem?_range (by omega)]
      simp only [Option.map_some, Option.getD_some]
      rw [if_pos (by omega)]
    have hd := dgt_lt x (i - 1)
    simp only [vary_Put.l0]
    rw [if_neg (by omega), e1, if_pos (by omega), if_pos (by rw [half_length]; omega), hr, and127 _ (by omega), Int.toNat_natCast]
    rw [show (128 + dgt x (i - 1)) % 128 = dgt x (i - 1) by omega]
    rw [half_end x i hm]
  | succ d ih =>
    intro k i h1 h2 hk
    obtain ⟨k, rfl⟩ : ∃ m, k = m + 1 := ⟨k - 1, by omega⟩
    simp only [vary_Put.l0]
    rw [if_pos (by omega), if_pos (by rw [wr_7 (by omega)]; omega), if_pos (by omega), if_pos (by rw [half_length]; omega), put_byte x i (by omega), Int.toNat_natCast, half_set, wr_i (by omega)]
    exact ih k (i + 1) (by omega) (by omega) (by omega)
theorem put_f (x : Nat) (hx : x < 2 ^ 64) : ∃ m, Cnt x m ∧ ∀ k, 12 ≤ k → vary_Put.f k (x : Int) = some (enc x m) := by
  obtain ⟨l, h1, h2, h3, h4⟩ := len_f x hx
  have hc := cnt_of_len h1 h2 h3
  refine ⟨_, hc, fun k hk => ?_⟩
  obtain ⟨m, hm⟩ : ∃ m, max 1 ((l + 6) / 7) = m := ⟨_, rfl⟩
  rw [hm] at hc ⊢
  obtain ⟨c1, c2, _, _⟩ := hc
  unfold vary_Put.f
  obtain ⟨k, rfl⟩ : ∃ m, k = m + 1 := ⟨k - 1, by omega⟩
  rw [h4 k, Option.bind_some]
  have e : mx 1 (wrap64 (Int.tdiv (wrap64 (((l : Nat) : Int) + 6)) 7)) = (m : Int) := by
    have e1 : wrap64 (((l : Nat) : Int) + 6) = ((l + 6 : Nat) : Int) := by unfold wrap64; omega
    rw [e1]
    have e2 : Int.tdiv ((l + 6 : Nat) : Int) 7 = (((l + 6) / 7 : Nat) : Int) := by rw [Int.tdiv_eq_ediv_of_nonneg (by omega)]; omega
    rw [e2]
    unfold mx wrap64
    split <;> omega
  rw [e, if_pos (by omega), if_pos (by omega), Int.toNat_natCast]
  have e0 : (List.replicate m (0 : Int)) = half x m 0 := by
    apply List.ext_getElem
    · simp [half]
    · intro j _ _; simp [half]
  rw [e0]
  exact put_l0 x m c1 c2 m (k + 1) 0 (by omega) (by omega) (by omega)
/-! ### vary.Get -/
def Rng (b : List Int) : Prop := ∀ i : Nat, i < b.length → 0 ≤ rd b (i : Int) ∧ rd b (i : Int) < 256
theorem rng_of_wf {b : List Int} (h : ∀ x ∈ b, (Lit.int .u8 x).wf = true) : Rng b := by
  intro i hi
  have : rd b (i : Int) = b[i] := by unfold rd; simp [List.getD_eq_getElem?_getD, List.getElem?_eq_getElem hi]
  rw [this]
  have := h _ (List.getElem_mem hi)
  simp only [Lit.wf, IntKind.min, IntKind.max, IntKind.signed, IntKind.bits, Bool.and_eq_true] at this
  simp at this
  omega
def Stop (b : List Int) (a n : Nat) : Prop :=
  n ≤ 10 ∧ (∀ j, j < n → a + j < b.length ∧ 128 ≤ rd b ((a + j : Nat) : Int)) ∧ (n = 10 ∨ a + n = b.length ∨ (a + n < b.length ∧ rd b ((a + n : Nat) : Int) < 128))
theorem Stop.unique {b : List Int} {a m n : Nat} (h : Stop b a m) (k : Stop b a n) : m = n := by
  obtain ⟨h1, h2, h3⟩ := h
  obtain ⟨k1, k2, k3⟩ := k
  rcases Nat.lt_trichotomy m n with hlt | rfl | hlt
  · have := k2 m hlt
    omega
  · rfl
  · have := h2 n hlt
    omega
def getR (b : List Int) (a n : Nat) : Int × Int × Int :=
  if n = 10 then (0, 0, 4) else if a + n = b.length then (0, 0, 5) else
    if (rd b ((a + n : Nat) : Int) = 0 ∧ 0 < n) ∨ (1 < rd b ((a + n : Nat) : Int) ∧ n = 9) then (0, 0, 4)
    else (((val b a (n + 1) : Nat) : Int), ((a + n + 1 : Nat) : Int), 0)
theorem get_l0 (b : List Int) (hb : Rng b) (hlen : b.length ≤ 281474976710656) (a : Nat) (d : Nat) : ∀ (i : Nat) (acc : Int), i ≤ 10 → 10 - i = d → a + i ≤ b.length →
    (∀ j, j < i → a + j < b.length ∧ 128 ≤ rd b ((a + j : Nat) : Int)) → (i ≤ 9 → acc = ((val b a i : Nat) : Int)) →
    ∃ n, Stop b a n ∧ ∀ k, d < k → vary_Get.l0 k b (a : Int) acc (i : Int) = some (getR b a n) := by
  induction d with
  | zero =>
    intro i acc h1 h2 h3 h4 h5
    obtain rfl : i = 10 := by omega
    refine ⟨10, ⟨by omega, h4, .inl rfl⟩, fun k hk => ?_⟩
    obtain ⟨k, rfl⟩ : ∃ m, k = m + 1 := ⟨k - 1, by omega⟩
    simp only [vary_Get.l0]
    rw [if_neg (by omega)]
    rfl
  | succ d ih =>
    intro i acc h1 h2 h3 h4 h5
    have hi : i ≤ 9 := by omega
    have hacc := h5 hi
    subst hacc
    have ew : wrap64 ((a : Int) + (i : Int)) = ((a + i : Nat) : Int) := by unfold wrap64; omega
    rcases Nat.eq_or_lt_of_le h3 with he | hlt
    · refine ⟨i, ⟨by omega, h4, .inr (.inl he)⟩, fun k hk => ?_⟩
      obtain ⟨k, rfl⟩ : ∃ m, k = m + 1 := ⟨k - 1, by omega⟩
      simp only [vary_Get.l0, ew]
      rw [if_pos (by omega), if_pos (by omega)]
      unfold getR
      rw [if_neg (by omega), if_pos he]
    · obtain ⟨c, hc⟩ := Int.eq_ofNat_of_zero_le (hb (a + i) hlt).1
      have hc' : c < 256 := by have := (hb (a + i) hlt).2; omega
      by_cases hbig : 128 ≤ c
      · have hacc : i + 1 ≤ 9 → Go.bits .or .u64 ((val b a i : Nat) : Int) (shl .u64 (IntKind.u64.wrap (Go.bits .and .u8 (rd b ((a + i : Nat) : Int)) 127)) (wrap64 (7 * (i : Int)))) = ((val b a (i + 1) : Nat) : Int) := fun h9 => by
          rw [hc, or_digit _ c i (val_lt b a i) hi hc' (by
            have e : (128 : Nat) ^ i ≤ 128 ^ 8 := Nat.pow_le_pow_right (by decide) (by omega)
            have := Nat.mul_le_mul (show c % 128 ≤ 127 by omega) e
            exact Nat.lt_of_le_of_lt this (by decide))]
          rw [val_succ, hc, Int.toNat_natCast]
        obtain ⟨n, hn, hk⟩ := ih (i + 1) _ (by omega) (by omega) (by omega) (fun j hj => by
          rcases Nat.lt_or_ge j i with h | h
          · exact h4 j h
          · obtain rfl : j = i := by omega
            exact ⟨hlt, by omega⟩) hacc
        refine ⟨n, hn, fun k hk' => ?_⟩
        obtain ⟨k, rfl⟩ : ∃ m, k = m + 1 := ⟨k - 1, by omega⟩
        simp only [vary_Get.l0, ew]
        rw [if_pos (by omega), if_neg (by omega), if_pos (by omega), if_pos (by omega), if_pos (by rw [wr_7 (by omega)]; omega), if_pos (by omega), wr_i (by omega)]
        exact hk k (by omega)
      · refine ⟨i, ⟨by omega, h4, .inr (.inr ⟨hlt, by omega⟩)⟩, fun k hk => ?_⟩
        obtain ⟨k, rfl⟩ : ∃ m, k = m + 1 := ⟨k - 1, by omega⟩
        have ew1 : wrap64 (((a + i : Nat) : Int) + 1) = ((a + i + 1 : Nat) : Int) := by unfold wrap64; omega
        simp only [vary_Get.l0, ew]
        rw [if_pos (by omega), if_neg (by omega), if_pos (by omega), if_pos (by omega), if_pos (by rw [wr_7 (by omega)]; omega), if_neg (by omega)]
        have hgood : ¬ (1 < rd b ((a + i : Nat) : Int) ∧ i = 9) → Go.bits .or .u64 ((val b a i : Nat) : Int) (shl .u64 (IntKind.u64.wrap (Go.bits .and .u8 (rd b ((a + i : Nat) : Int)) 127)) (wrap64 (7 * (i : Int)))) = ((val b a (i + 1) : Nat) : Int) := fun hg => by
          rw [hc, or_digit _ c i (val_lt b a i) hi hc' (by
            by_cases h9 : i = 9
            · subst h9
              have : c % 128 ≤ 1 := by omega
              have := Nat.mul_le_mul_right (128 ^ 9) this
              exact Nat.lt_of_le_of_lt this (by decide)
            · have e : (128 : Nat) ^ i ≤ 128 ^ 8 := Nat.pow_le_pow_right (by decide) (by omega)
              have := Nat.mul_le_mul (show c % 128 ≤ 127 by omega) e
              exact Nat.lt_of_le_of_lt this (by decide))]
          rw [val_succ, hc, Int.toNat_natCast]
        unfold getR
        rw [if_neg (show ¬ i = 10 by omega), if_neg (show ¬ a + i = b.length by omega)]
        by_cases c0 : rd b ((a + i : Nat) : Int) = 0
        · rw [if_pos c0]
          by_cases hi0 : 0 < i
          · rw [if_pos (by omega), if_pos (.inl ⟨c0, hi0⟩)]
          · rw [if_neg (by omega), if_neg (by omega), if_neg (by omega), hgood (by omega), ew1]
        · rw [if_neg c0]
          by_cases c1 : 1 < rd b ((a + i : Nat) : Int)
          · rw [if_pos (by omega)]
            by_cases h9 : i = 9
            · rw [if_pos (by omega), if_pos (.inr ⟨c1, h9⟩)]
            · rw [if_neg (by omega), if_neg (by omega), hgood (by omega), ew1]
          · rw [if_neg (by omega), if_neg (by omega), hgood (by omega), ew1]
theorem get_in (b : List Int) (hb : Rng b) (hlen : b.length ≤ 281474976710656) (a : Nat) (ha : a ≤ b.length) : ∃ n, Stop b a n ∧ ∀ k, 12 ≤ k → vary_Get.f k b (a : Int) = some (getR b a n) := by
  obtain ⟨n, hn, h⟩ := get_l0 b hb hlen a 10 0 0 (by omega) rfl (by omega) (fun j hj => by omega) (fun _ => by simp [val])
  refine ⟨n, hn, fun k hk => ?_⟩
  obtain ⟨k, rfl⟩ : ∃ m, k = m + 1 := ⟨k - 1, by omega⟩
  unfold vary_Get.f
  rw [if_neg (by omega), decide_eq_false (by omega)]
  simp only [vary_Get.j0, Bool.false_eq_true, if_false]
  exact h k (by omega)
theorem get_out (b : List Int) (a : Int) (ha : a < 0 ∨ (b.length : Int) < a) (k : Nat) (hk : 1 ≤ k) : vary_Get.f k b a = some (0, 0, 3) := by
  obtain ⟨k, rfl⟩ : ∃ m, k = m + 1 := ⟨k - 1, by omega⟩
  unfold vary_Get.f
  by_cases h : a < 0
  · rw [if_pos h]; simp only [vary_Get.j0, if_true]
  · rw [if_neg h, decide_eq_true (by omega)]; simp only [vary_Get.j0, if_true]
/-- what is put is got -/
theorem get_enc (x m : Nat) (hx : x < 2 ^ 64) (hc : Cnt x m) (b : List Int) (hb : Rng b) (hlen : b.length ≤ 281474976710656) (a : Nat) (ha : a + m ≤ b.length) (he : ∀ j, j < m → rd b ((a + j : Nat) : Int) = byt x m j) :
    ∀ k, 12 ≤ k → vary_Get.f k b (a : Int) = some ((x : Int), ((a + m : Nat) : Int), 0) := by
  obtain ⟨n, hn, h⟩ := get_in b hb hlen a (by omega)
  have hm1 := hc.1
  have hm2 := hc.2.1
  have htop := top_digit hc
  have hlast : rd b ((a + (m - 1) : Nat) : Int) = ((dgt x (m - 1) : Nat) : Int) := by rw [he (m - 1) (by omega)]; unfold byt; rw [if_neg (by omega)]
  have hd := dgt_lt x (m - 1)
  have hs : Stop b a (m - 1) := ⟨by omega, fun j hj => ⟨by omega, by rw [he j (by omega)]; unfold byt; rw [if_pos (by omega)]; omega⟩, .inr (.inr ⟨by omega, by omega⟩)⟩
  obtain rfl := hn.unique hs
  intro k hk
  rw [h k hk]
  unfold getR
  rw [if_neg (by omega), if_neg (by omega), if_neg, show m - 1 + 1 = m by omega, val_enc hc b a he]
  · congr 3; omega
  · rintro (⟨h1, h2⟩ | ⟨h1, h2⟩)
    · have := htop.2 (by omega); omega
    · have := top_ten hc hx (by omega)
      have e9 : dgt x (m - 1) = dgt x 9 := by rw [h2]
      omega
/-- cut short it is told so -/
theorem get_short (x m : Nat) (hc : Cnt x m) (b : List Int) (hb : Rng b) (i : Nat) (hi : i < m) (hl : b.length = i) (he : ∀ j, j < i → rd b ((j : Nat) : Int) = byt x m j) :
    ∀ k, 12 ≤ k → vary_Get.f k b 0 = some (0, 0, 5) := by
  have hm2 := hc.2.1
  obtain ⟨n, hn, h⟩ := get_in b hb (by omega) 0 (by omega)
  have hs : Stop b 0 i := ⟨by omega, fun j hj => ⟨by omega, by rw [Nat.zero_add, he j hj]; unfold byt; rw [if_pos (by omega)]; omega⟩, .inr (.inl (by omega))⟩
  obtain rfl := hn.unique hs
  intro k hk
  have := h k hk
  rw [show ((0 : Nat) : Int) = 0 from rfl] at this
  rw [this]
  unfold getR
  rw [if_neg (by omega), if_pos (by omega)]
theorem enc_rng (x m : Nat) : Rng (enc x m) := by
  intro i hi
  rw [enc_length] at hi
  rw [enc_rd x m i hi]
  exact byt_range x m i
/-! ### Zig and Zag -/
theorem xor_comm_ (k : IntKind) (a b : Int) : Go.bits .xor k a b = Go.bits .xor k b a := by
  show k.wrap ((BitVec.ofInt k.bits a ^^^ BitVec.ofInt k.bits b).toNat : Int) = k.wrap ((BitVec.ofInt k.bits b ^^^ BitVec.ofInt k.bits a).toNat : Int)
  rw [BitVec.xor_comm]
theorem wrapU64 (n : Int) : IntKind.u64.wrap n = n % 18446744073709551616 := by simp [IntKind.wrap, IntKind.bits, IntKind.signed]
theorem zig_spec (x : Int) (h0 : -9223372036854775808 ≤ x) (h1 : x ≤ 9223372036854775807) : vary_Zig.f x = some (if 0 ≤ x then 2 * x else -2 * x - 1) := by
  unfold vary_Zig.f
  by_cases hx : 0 ≤ x
  · rw [if_pos hx, show x / 9223372036854775808 = 0 by omega]
    have e1 : IntKind.u64.wrap (IntKind.u64.wrap x * 2) = (((2 * x).toNat : Nat) : Int) := by rw [wrapU64, wrapU64]; omega
    have e2 : IntKind.u64.wrap 0 = ((0 : Nat) : Int) := by decide
    rw [e1, e2, bits_xor_u64_nat _ _ (by omega) (by decide), Nat.xor_zero]
    exact congrArg some (by omega)
  · rw [if_neg hx, show x / 9223372036854775808 = -1 by omega]
    have e1 : IntKind.u64.wrap (IntKind.u64.wrap x * 2) = (((2 * x + 18446744073709551616).toNat : Nat) : Int) := by rw [wrapU64, wrapU64]; omega
    have e2 : IntKind.u64.wrap (-1) = ((2 ^ 64 - 1 : Nat) : Int) := by decide
    rw [e1, e2, xor_comm_, bits_xor_u64_nat _ _ (by decide) (by omega), Lib.xor_ones64 _ (by omega)]
    exact congrArg some (by omega)
theorem xor_i64_zero (a : Int) (h0 : 0 ≤ a) (h1 : a < 9223372036854775808) : Go.bits .xor .i64 a 0 = a := by
  show IntKind.i64.wrap ((BitVec.ofInt 64 a ^^^ BitVec.ofInt 64 0).toNat : Int) = _
  obtain ⟨n, rfl⟩ := Int.eq_ofNat_of_zero_le h0
  have h2 : (BitVec.ofInt 64 (n : Int)).toNat = n := by
    rw [BitVec.ofInt_natCast, BitVec.toNat_ofNat]; exact Nat.mod_eq_of_lt (by omega)
  have h3 : (BitVec.ofInt 64 0).toNat = 0 := by decide
  rw [BitVec.toNat_xor, h2, h3, Nat.xor_zero, IntKind.wrap_i64]
  omega
theorem zag_spec (u : Int) (h0 : 0 ≤ u) (h1 : u < 18446744073709551616) : vary_Zag.f u = some (if u % 2 = 0 then u / 2 else -(u / 2) - 1) := by
  unfold vary_Zag.f
  rw [Lib.u64_and1 u h0 h1]
  have e1 : wrap64 (u / 2) = u / 2 := by unfold wrap64; omega
  rw [e1]
  by_cases h : u % 2 = 0
  · rw [if_pos h, h, show wrap64 (-(wrap64 0)) = 0 by unfold wrap64; omega, xor_i64_zero _ (by omega) (by omega)]
  · rw [if_neg h, show u % 2 = 1 by omega, show wrap64 (-(wrap64 1)) = -1 by unfold wrap64; omega, xor_comm_]
    obtain ⟨n, hn⟩ := Int.eq_ofNat_of_zero_le (show 0 ≤ u / 2 by omega)
    rw [hn, Lib.i64_not n (by omega)]
/-! ### the document's Put -/
theorem enc_step {x m : Nat} (hx : 128 ≤ x) (h : Cnt x m) : 2 ≤ m ∧ Cnt (x / 128) (m - 1) ∧ enc x m = ((128 + x % 128 : Nat) : Int) :: enc (x / 128) (m - 1) := by
  obtain ⟨h1, h2, h3, h4⟩ := h
  have hm : 2 ≤ m := by
    rcases Nat.lt_or_ge m 2 with h | h
    · obtain rfl : m = 1 := by omega
      omega
    · exact h
  obtain ⟨n, rfl⟩ : ∃ n, m = n + 2 := ⟨m - 2, by omega⟩
  have e1 : n + 2 - 1 = n + 1 := by omega
  rw [e1] at h4 ⊢
  refine ⟨hm, ⟨by omega, by omega, ?_, ?_⟩, ?_⟩
  · rw [Nat.div_lt_iff_lt_mul (by decide), ← Nat.pow_succ]; exact h3
  · rcases h4 with h4 | h4
    · omega
    · rcases Nat.eq_zero_or_pos n with rfl | hn
      · exact .inl rfl
      · refine .inr ?_
        rw [Nat.le_div_iff_mul_le (by decide), ← Nat.pow_succ]
        exact Nat.le_trans (Nat.pow_le_pow_right (by decide) (by omega)) h4
  · have hd : ∀ j, dgt (x / 128) j = dgt x (j + 1) := fun j => by unfold dgt; rw [Nat.div_div_eq_div_mul, Nat.pow_succ, Nat.mul_comm]
    unfold enc
    rw [List.range_succ_eq_map, List.map_cons, List.map_map]
    congr 1
    · unfold byt dgt
      rw [if_pos (by omega)]
      simp
    · apply List.map_congr_left
      intro j _
      show byt x (n + 2) (j + 1) = byt (x / 128) (n + 1) j
      unfold byt
      rw [hd j]
      by_cases h : j + 1 < n + 1
      · rw [if_pos (by omega), if_pos h]
      · rw [if_neg (by omega), if_neg h]
theorem refput_l0 (d : Nat) : ∀ (x m : Nat) (out : List Int) (k : Nat), x < 2 ^ 64 → Cnt x m → m = d → d < k → out.length + m ≤ 100 →
    cuecardref02_Put.l0 k (x : Int) out = some (out ++ enc x m) := by
  induction d with
  | zero => intro x m out k _ h hd; have := h.1; omega
  | succ d ih =>
    intro x m out k hx h hd hk hl
    obtain ⟨k, rfl⟩ : ∃ m, k = m + 1 := ⟨k - 1, by omega⟩
    simp only [cuecardref02_Put.l0]
    by_cases hx1 : 128 ≤ x
    · obtain ⟨h1, h2, h3⟩ := enc_step hx1 h
      have e1 : IntKind.u64.wrap (Int.tdiv (x : Int) 128) = ((x / 128 : Nat) : Int) := by rw [Int.tdiv_eq_ediv_of_nonneg (by omega), wrapsU64 _ (by omega) (by omega)]; omega
      have e2 : IntKind.u64.wrap (128 + Int.tmod (x : Int) 128) % 256 = ((128 + x % 128 : Nat) : Int) := by rw [Int.tmod_eq_emod_of_nonneg (by omega), wrapsU64 _ (by omega) (by omega)]; omega
      rw [if_pos (by omega), if_pos (by omega), e1, e2, ih (x / 128) (m - 1) _ k (by omega) h2 (by omega) (by omega) (by simp; omega), h3]
      simp
    · have hm : m = 1 := by
        rcases h.2.2.2 with h4 | h4
        · exact h4
        · by_cases e : m = 1
          · exact e
          · have := Nat.pow_le_pow_right (show 0 < 128 by decide) (show 1 ≤ m - 1 by have := h.1; omega)
            omega
      subst hm
      rw [if_neg (by omega), if_pos (by omega)]
      have : enc x 1 = [(x : Int)] := by
        unfold enc byt dgt
        simp
        omega
      rw [this, show (x : Int) % 256 = (x : Int) by omega]
theorem refput_f (x m : Nat) (hx : x < 2 ^ 64) (h : Cnt x m) (k : Nat) (hk : 12 ≤ k) : cuecardref02_Put.f k (x : Int) = some (enc x m) := by
  unfold cuecardref02_Put.f
  have := h.2.1
  rw [refput_l0 m x m [] k hx h rfl (by omega) (by simp; omega)]
  simp
theorem refzig_spec (x : Int) (h0 : -9223372036854775808 ≤ x) (h1 : x ≤ 9223372036854775807) : cuecardref02_Zig.f x = some (if 0 ≤ x then 2 * x else -2 * x - 1) := by
  unfold cuecardref02_Zig.f
  by_cases hx : 0 ≤ x
  · rw [if_pos (by omega), if_pos hx, wrapU64, wrapU64]
    exact congrArg some (by omega)
  · rw [if_neg (by omega), if_neg hx]
    have e : wrap64 (-(wrap64 (x + 1))) = -x - 1 := by unfold wrap64; omega
    rw [e, wrapU64, wrapU64, wrapU64]
    exact congrArg some (by omega)
theorem refzag_spec (u : Int) (h0 : 0 ≤ u) (h1 : u < 18446744073709551616) : cuecardref02_Zag.f u = some (if u % 2 = 0 then u / 2 else -(u / 2) - 1) := by
  unfold cuecardref02_Zag.f
  rw [Int.tmod_eq_emod_of_nonneg h0, Int.tdiv_eq_ediv_of_nonneg h0, wrapU64, show (u / 2) % 18446744073709551616 = u / 2 by omega]
  by_cases h : u % 2 = 0
  · rw [if_pos h, if_pos h]
    exact congrArg some (by unfold wrap64; omega)
  · rw [if_neg h, if_neg h]
    exact congrArg some (by unfold wrap64; omega)
theorem zig_zag (x : Int) (h0 : -9223372036854775808 ≤ x) (h1 : x ≤ 9223372036854775807) : ∃ u, vary_Zig.f x = some u ∧ vary_Zag.f u = some x := by
  refine ⟨_, zig_spec x h0 h1, ?_⟩
  by_cases h : 0 ≤ x
  · rw [if_pos h, zag_spec _ (by omega) (by omega), if_pos (by omega)]; exact congrArg some (by omega)
  · rw [if_neg h, zag_spec _ (by omega) (by omega), if_neg (by omega)]; exact congrArg some (by omega)
theorem zag_zig (u : Int) (h0 : 0 ≤ u) (h1 : u < 18446744073709551616) : ∃ x, vary_Zag.f u = some x ∧ vary_Zig.f x = some u := by
  refine ⟨_, zag_spec u h0 h1, ?_⟩
  by_cases h : u % 2 = 0
  · rw [if_pos h, zig_spec _ (by omega) (by omega), if_pos (by omega)]; exact congrArg some (by omega)
  · rw [if_neg h, zig_spec _ (by omega) (by omega), if_neg (by omega)]; exact congrArg some (by omega)
theorem get_good (b : List Int) (hb : Rng b) (a n : Nat) (hs : Stop b a n) (h10 : n ≠ 10) (hl : a + n ≠ b.length) (hc : ¬ ((rd b ((a + n : Nat) : Int) = 0 ∧ 0 < n) ∨ (1 < rd b ((a + n : Nat) : Int) ∧ n = 9))) :
    n ≤ 9 ∧ a + n < b.length ∧ val b a (n + 1) < 2 ^ 64 ∧ Cnt (val b a (n + 1)) (n + 1) ∧ ∀ j, j < n + 1 → rd b ((a + j : Nat) : Int) = byt (val b a (n + 1)) (n + 1) j := by
  obtain ⟨h1, h2, h3⟩ := hs
  have hlt : a + n < b.length ∧ rd b ((a + n : Nat) : Int) < 128 := by
    rcases h3 with h3 | h3 | h3
    · exact absurd h3 h10
    · exact absurd h3 hl
    · exact h3
  have hr := hb (a + n) hlt.1
  have ho := own_bytes b a n (by omega) (fun j hj => ⟨(h2 j hj).2, (hb (a + j) (h2 j hj).1).2⟩) hr.1 hlt.2 (fun e => by omega)
  refine ⟨by omega, hlt.1, ?_, ho⟩
  rw [val_succ]
  have hv := val_lt b a n
  by_cases h9 : n = 9
  · subst h9
    have : (rd b ((a + 9 : Nat) : Int)).toNat % 128 ≤ 1 := by omega
    have := Nat.mul_le_mul_right (128 ^ 9) this
    have e : (128 : Nat) ^ 9 + 1 * 128 ^ 9 ≤ 2 ^ 64 := by decide
    omega
  · have e : (128 : Nat) ^ n ≤ 128 ^ 8 := Nat.pow_le_pow_right (by decide) (by omega)
    have h7 : (rd b ((a + n : Nat) : Int)).toNat % 128 ≤ 127 := by omega
    have := Nat.mul_le_mul h7 e
    have e2 : (128 : Nat) ^ 8 + 127 * 128 ^ 8 < 2 ^ 64 := by decide
    omega
end Va
/-! ### a transcript's bytes -/
open Classical in
/-- a number's bytes -/
noncomputable def en (x : Nat) : List Int := if h : ∃ m, Va.Cnt x m then Va.enc x h.choose else []
theorem en_eq {x m : Nat} (h : Va.Cnt x m) : en x = Va.enc x m := by
  have hx : ∃ m, Va.Cnt x m := ⟨m, h⟩
  unfold en
  rw [dif_pos hx, hx.choose_spec.unique h]
theorem put_en (x : Nat) (hx : x < 2 ^ 64) {k : Nat} (hk : 12 ≤ k) : vary_Put.f k (x : Int) = some (en x) := by
  obtain ⟨m, hm, hp⟩ := Va.put_f x hx
  rw [hp k hk, en_eq hm]
theorem refput_en (x : Nat) (hx : x < 2 ^ 64) {k : Nat} (hk : 12 ≤ k) : cuecardref02_Put.f k (x : Int) = some (en x) := by
  obtain ⟨m, hm⟩ := Va.Cnt.exists x hx
  rw [Va.refput_f x m hx hm k hk, en_eq hm]
theorem en_len (x : Nat) (hx : x < 2 ^ 64) : 1 ≤ (en x).length ∧ (en x).length ≤ 10 := by
  obtain ⟨m, hm⟩ := Va.Cnt.exists x hx
  rw [en_eq hm, Va.enc_length]
  exact ⟨hm.1, hm.2.1⟩
theorem en_rng (x : Nat) : ∀ b ∈ en x, 0 ≤ b ∧ b < 256 := by
  intro b hb
  unfold en at hb
  split at hb
  · unfold Va.enc at hb
    obtain ⟨i, _, rfl⟩ := List.mem_map.1 hb
    exact Va.byt_range _ _ _
  · cases hb
def I64 (x : Int) : Prop := -9223372036854775808 ≤ x ∧ x ≤ 9223372036854775807
theorem wrap_i64 (x : Int) : I64 (wrap64 x) := by unfold I64 wrap64; omega
def zg (x : Int) : Nat := (if 0 ≤ x then 2 * x else -2 * x - 1).toNat
def ug (u : Nat) : Int := if (u : Int) % 2 = 0 then (u : Int) / 2 else -((u : Int) / 2) - 1
theorem zg_lt {x : Int} (h : I64 x) : zg x < 2 ^ 64 := by unfold zg; unfold I64 at h; split <;> omega
theorem zig_zg {x : Int} (h : I64 x) : vary_Zig.f x = some ((zg x : Nat) : Int) := by
  rw [Va.zig_spec x h.1 h.2]; unfold zg; congr 1; split <;> omega
theorem refzig_zg {x : Int} (h : I64 x) : cuecardref02_Zig.f x = some ((zg x : Nat) : Int) := by
  rw [Va.refzig_spec x h.1 h.2]; unfold zg; congr 1; split <;> omega
theorem zag_ug {u : Nat} (h : u < 2 ^ 64) : vary_Zag.f (u : Int) = some (ug u) := by
  rw [Va.zag_spec _ (by omega) (by omega)]; rfl
theorem refzag_ug {u : Nat} (h : u < 2 ^ 64) : cuecardref02_Zag.f (u : Int) = some (ug u) := by
  rw [Va.refzag_spec _ (by omega) (by omega)]; rfl
theorem ug_i64 {u : Nat} (h : u < 2 ^ 64) : I64 (ug u) := by unfold I64 ug; split <;> omega
theorem ug_zg (x : Int) : ug (zg x) = x := by
  unfold ug zg
  by_cases h : 0 ≤ x
  · rw [if_pos h, if_pos (by omega)]; omega
  · rw [if_neg h, if_neg (by omega)]; omega
theorem zg_ug (u : Nat) : zg (ug u) = u := by
  unfold zg ug
  by_cases h : (u : Int) % 2 = 0
  · rw [if_pos h, if_pos (by omega)]; omega
  · rw [if_neg h, if_neg (by omega)]; omega
/-- an event's bytes behind the time `last` -/
noncomputable def evb (last : Int) (e : S43) : List Int := (1 + e.f0) :: (en (zg (wrap64 (e.f1 - last))) ++ (en e.f2.length ++ e.f2))
noncomputable def evs : Int → List S43 → List Int
  | _, [] => []
  | last, e :: l => evb last e ++ evs e.f1 l
def fin (b : Bool) : List Int := if b = true then [3] else []
noncomputable def trn (l : List S43) (b : Bool) : List Int := [67, 85, 69, 49] ++ (evs 0 l ++ fin b)
/-- an event that may be told -/
def Ok1 (x : S43) : Prop := (x.f0 = 0 ∨ x.f0 = 1) ∧ x.f2.length ≤ 65536
theorem chk_zero (l : List S43) : ∀ a : Nat, a ≤ 262144 → (chk l a = 0 ↔ (∀ x ∈ l, Ok1 x) ∧ a + tot l ≤ 262144) := by
  induction l with
  | nil => intro a ha; simp [chk, tot, ha]
  | cons x r ih =>
    intro a ha
    rw [chk, tot_cons]
    by_cases h : x.f0 ≠ 0 ∧ x.f0 ≠ 1
    · rw [if_pos h]
      refine ⟨fun h2 => absurd h2 (by decide), fun h2 => ?_⟩
      have := (h2.1 x (List.mem_cons_self ..)).1
      omega
    · rw [if_neg h]
      by_cases h2 : 65536 < x.f2.length ∨ 262144 < a + x.f2.length
      · rw [if_pos h2]
        refine ⟨fun h3 => absurd h3 (by decide), fun h3 => ?_⟩
        have := (h3.1 x (List.mem_cons_self ..)).2
        have := h3.2
        omega
      · rw [if_neg h2, ih _ (by omega)]
        constructor
        · rintro ⟨h3, h4⟩
          refine ⟨fun y hy => ?_, by omega⟩
          rcases List.mem_cons.1 hy with rfl | hy
          · exact ⟨by omega, by omega⟩
          · exact h3 y hy
        · rintro ⟨h3, h4⟩
          exact ⟨fun y hy => h3 y (List.mem_cons_of_mem _ hy), by omega⟩
/-- what Check says -/
def chkV (l : List S43) : Int := if 4096 < l.length then 10 else chk l 0
/-- events that may be told -/
def Good (l : List S43) : Prop := l.length ≤ 4096 ∧ (∀ x ∈ l, Ok1 x) ∧ tot l ≤ 262144
theorem chkV_zero (l : List S43) : chkV l = 0 ↔ Good l := by
  unfold chkV Good
  by_cases h : 4096 < l.length
  · rw [if_pos h]; exact ⟨fun h2 => absurd h2 (by decide), fun h2 => by omega⟩
  · rw [if_neg h, chk_zero l 0 (by omega)]
    constructor
    · rintro ⟨h1, h2⟩; exact ⟨by omega, h1, by omega⟩
    · rintro ⟨_, h1, h2⟩; exact ⟨h1, by omega⟩
theorem evb_len (last : Int) (e : S43) (h : e.f2.length ≤ 65536) : 3 ≤ (evb last e).length ∧ (evb last e).length ≤ 21 + e.f2.length := by
  unfold evb
  have h1 := en_len _ (zg_lt (wrap_i64 (e.f1 - last)))
  have h2 := en_len e.f2.length (by omega)
  simp only [List.length_cons, List.length_append]
  omega
theorem evs_len (l : List S43) : ∀ last, (∀ x ∈ l, Ok1 x) → (evs last l).length ≤ 21 * l.length + tot l := by
  induction l with
  | nil => intro last _; simp [evs, tot]
  | cons e r ih =>
    intro last h
    have h1 := evb_len last e (h e (List.mem_cons_self ..)).2
    have h2 := ih e.f1 (fun x hx => h x (List.mem_cons_of_mem _ hx))
    rw [evs, tot_cons, List.length_append, List.length_cons]
    omega
theorem trn_len {l : List S43} (h : Good l) (b : Bool) : 4 ≤ (trn l b).length ∧ (trn l b).length ≤ 1048576 := by
  have := evs_len l 0 h.2.1
  have h1 := h.1
  have h2 := h.2.2
  unfold trn fin
  simp only [List.length_append, List.length_cons, List.length_nil]
  split <;> simp <;> omega
theorem wtag {d : Int} (h : d = 0 ∨ d = 1) : (wrap64 (1 + d)) % 256 = 1 + d := by unfold wrap64; omega
theorem wrapN (n : Nat) (h : n < 2 ^ 63) : IntKind.u64.wrap ((n : Nat) : Int) = (n : Int) := by rw [Va.wrapU64]; omega
theorem enc_l0 (l : List S43) (b : Bool) (h : ∀ x ∈ l, Ok1 x) (hl : l.length ≤ 4096) (d : Nat) : ∀ (i k : Nat) (out : List Int) (last : Int), i + d = l.length → d + 12 < k → out.length + 21 * d + tot (l.drop i) ≤ 1073741824 →
    trans_Encode.l0 k out last l (l.length : Int) (i : Int) l b = some (out ++ (evs last (l.drop i) ++ fin b), 0) := by
  induction d with
  | zero =>
    intro i k out last hi hk ht
    obtain ⟨k, rfl⟩ : ∃ m, k = m + 1 := ⟨k - 1, by omega⟩
    rw [trans_Encode.l0, if_neg (by omega), List.drop_of_length_le (by omega)]
    unfold fin
    cases b
    · simp [evs]
    · rw [if_pos rfl, if_pos (by omega)]; simp [evs]
  | succ d ih =>
    intro i k out last hi hk ht
    obtain ⟨k, rfl⟩ : ∃ m, k = m + 1 := ⟨k - 1, by omega⟩
    have hlt : i < l.length := by omega
    have hx := h l[i] (List.getElem_mem hlt)
    have hn := hx.2
    have hz := wrap_i64 (l[i].f1 - last)
    have hz1 := zg_lt hz
    have hw1 : wrap64 ((i : Int) + 1) = ((i + 1 : Nat) : Int) := by unfold wrap64; omega
    have e1 := en_len _ hz1
    have e2 := en_len l[i].f2.length (by omega)
    rw [List.drop_eq_getElem_cons hlt, tot_cons] at ht
    rw [trans_Encode.l0, if_pos (by omega), if_pos (by omega), if_pos (by omega), rdT l i hlt, if_pos (by omega), hw1, List.drop_eq_getElem_cons hlt, evs]
    simp only [Option.bind_some, clock_Delta.f, zig_zg hz, put_en _ hz1 (show 12 ≤ k by omega), wtag hx.1, wrapN _ (show l[i].f2.length < 2 ^ 63 by omega), put_en _ (show l[i].f2.length < 2 ^ 64 by omega) (show 12 ≤ k by omega)]
    rw [if_pos (by simp only [List.length_append, List.length_cons, List.length_nil]; omega), if_pos (by simp only [List.length_append, List.length_cons, List.length_nil]; omega), if_pos (by simp only [List.length_append, List.length_cons, List.length_nil]; omega)]
    rw [ih (i + 1) k _ _ (by omega) (by omega) (by simp only [List.length_append, List.length_cons, List.length_nil]; omega)]
    unfold evb
    simp
theorem enc_f (l : List S43) (hs : small l) (b : Bool) {k : Nat} (hk : 2 * l.length + 20 ≤ k) : trans_Encode.f k l b = some (if chkV l = 0 then (trn l b, 0) else ([], chkV l)) := by
  have hc : event_Check.f k l = some (chkV l) := check_f l hs (by omega)
  unfold trans_Encode.f
  rw [hc]
  simp only [Option.bind_some]
  by_cases h : chkV l = 0
  · rw [if_pos h, if_pos h]
    have g := (chkV_zero l).1 h
    have := enc_l0 l b g.2.1 g.1 l.length 0 k [67, 85, 69, 49] 0 (by omega) (by omega) (by have := g.1; have := g.2.2; simp; omega)
    exact this
  · rw [if_neg h, if_neg h]
theorem delta_ref (a b : Int) : cuecardref03_Delta.f a b = some (wrap64 (b - a)) := by
  unfold cuecardref03_Delta.f
  rw [Va.wrapU64, Va.wrapU64, Va.wrapU64]
  congr 1
  unfold wrap64
  omega
theorem refenc_l0 (l : List S43) (b : Bool) (h : ∀ x ∈ l, Ok1 x) (hl : l.length ≤ 4096) (d : Nat) : ∀ (i k : Nat) (out : List Int) (last : Int), i + d = l.length → d + 12 < k → out.length + 21 * d + tot (l.drop i) ≤ 1073741824 →
    cuecardref05_Encode.l0 k out last (i : Int) l b = some (out ++ (evs last (l.drop i) ++ fin b)) := by
  induction d with
  | zero =>
    intro i k out last hi hk ht
    obtain ⟨k, rfl⟩ : ∃ m, k = m + 1 := ⟨k - 1, by omega⟩
    rw [cuecardref05_Encode.l0, if_neg (by omega), List.drop_of_length_le (by omega)]
    unfold fin
    cases b
    · simp [evs]
    · rw [if_pos rfl, if_pos (by omega)]; simp [evs]
  | succ d ih =>
    intro i k out last hi hk ht
    obtain ⟨k, rfl⟩ : ∃ m, k = m + 1 := ⟨k - 1, by omega⟩
    have hlt : i < l.length := by omega
    have hx := h l[i] (List.getElem_mem hlt)
    have hn := hx.2
    have hz := wrap_i64 (l[i].f1 - last)
    have hz1 := zg_lt hz
    have hw1 : wrap64 ((i : Int) + 1) = ((i + 1 : Nat) : Int) := by unfold wrap64; omega
    have e1 := en_len _ hz1
    have e2 := en_len l[i].f2.length (by omega)
    rw [List.drop_eq_getElem_cons hlt, tot_cons] at ht
    rw [cuecardref05_Encode.l0, if_pos (by omega), if_pos (by omega), rdT l i hlt, if_pos (by omega), hw1, List.drop_eq_getElem_cons hlt, evs]
    simp only [Option.bind_some, delta_ref, refzig_zg hz, refput_en _ hz1 (show 12 ≤ k by omega), wtag hx.1, wrapN _ (show l[i].f2.length < 2 ^ 63 by omega), refput_en _ (show l[i].f2.length < 2 ^ 64 by omega) (show 12 ≤ k by omega)]
    rw [if_pos (by simp only [List.length_append, List.length_cons, List.length_nil]; omega), if_pos (by simp only [List.length_append, List.length_cons, List.length_nil]; omega), if_pos (by simp only [List.length_append, List.length_cons, List.length_nil]; omega)]
    rw [ih (i + 1) k _ _ (by omega) (by omega) (by simp only [List.length_append, List.length_cons, List.length_nil]; omega)]
    unfold evb
    simp
theorem refenc_f (l : List S43) (g : Good l) (b : Bool) {k : Nat} (hk : l.length + 20 ≤ k) : cuecardref05_Encode.f k l b = some (trn l b) := by
  have := refenc_l0 l b g.2.1 g.1 l.length 0 k [67, 85, 69, 49] 0 (by omega) (by omega) (by have := g.1; have := g.2.2; simp; omega)
  exact this
theorem refchk_f (l : List S43) (hs : small l) {k : Nat} (hk : 2 * l.length + 20 ≤ k) : cuecardref04_Check.f k l = some (chkV l) := refcheck_f l hs (by omega)
/-! ### what Decode says -/
def Byt (l : List Int) : Prop := ∀ x ∈ l, 0 ≤ x ∧ x < 256
theorem rd_nat {b : List Int} {i : Nat} (h : i < b.length) : rd b (i : Int) = b[i] := by simp [rd, List.getD_eq_getElem?_getD, List.getElem?_eq_getElem h]
theorem byt_rng {b : List Int} (h : Byt b) : Va.Rng b := by
  intro i hi
  rw [rd_nat hi]
  exact h _ (List.getElem_mem hi)
/-- bytes at a place, as places and as lists -/
theorem enc_at {b : List Int} {a x m : Nat} (h : a + m ≤ b.length) (he : ∀ j, j < m → rd b ((a + j : Nat) : Int) = Va.byt x m j) : b.drop a = Va.enc x m ++ b.drop (a + m) := by
  rw [← List.take_append_drop m (b.drop a), List.drop_drop]
  congr 1
  refine List.ext_getElem (by rw [List.length_take, List.length_drop, Va.enc_length]; omega) fun j h1 h2 => ?_
  rw [Va.enc_length] at h2
  have := he j h2
  rw [rd_nat (by omega), ← Va.enc_rd x m j h2, rd_nat (by rw [Va.enc_length]; omega)] at this
  simpa using this
theorem at_enc {b rest : List Int} {a x m : Nat} (h : b.drop a = Va.enc x m ++ rest) (j : Nat) (hj : j < m) : rd b ((a + j : Nat) : Int) = Va.byt x m j := by
  rw [← Va.enc_rd x m j hj]
  have h1 : (b.drop a)[j]? = (Va.enc x m)[j]? := by rw [h, List.getElem?_append_left (by rw [Va.enc_length]; omega)]
  rw [List.getElem?_drop] at h1
  unfold rd
  rw [Int.toNat_natCast, Int.toNat_natCast, List.getD_eq_getElem?_getD, List.getD_eq_getElem?_getD, h1]
theorem w64 {x : Int} (h : -9223372036854775808 ≤ x) (h' : x ≤ 9223372036854775807) : wrap64 x = x := by unfold wrap64; omega
/-- Get, out of what stands there -/
theorem get_back {b rest : List Int} (hb : Byt b) (hlen : b.length ≤ 281474976710656) {a u : Nat} (hu : u < 2 ^ 64) (h : b.drop a = en u ++ rest) {k : Nat} (hk : 12 ≤ k) :
    vary_Get.f k b (a : Int) = some ((u : Int), ((a + (en u).length : Nat) : Int), 0) := by
  obtain ⟨m, hm⟩ := Va.Cnt.exists u hu
  rw [en_eq hm] at h ⊢
  have hl := congrArg List.length h
  rw [List.length_drop, List.length_append, Va.enc_length] at hl
  have h1 := hm.1
  rw [Va.enc_length]
  exact Va.get_enc u m hu hm b (byt_rng hb) hlen a (by omega) (at_enc h) k hk
/-- Get: a number that stands there, or an error -/
theorem get_spec {b : List Int} (hb : Byt b) (hlen : b.length ≤ 281474976710656) {a : Nat} (ha : a ≤ b.length) :
    (∃ e : Int, e ≠ 0 ∧ ∀ k, 12 ≤ k → vary_Get.f k b (a : Int) = some (0, 0, e)) ∨
    (∃ u rest, u < 2 ^ 64 ∧ b.drop a = en u ++ rest ∧ ∀ k, 12 ≤ k → vary_Get.f k b (a : Int) = some ((u : Int), ((a + (en u).length : Nat) : Int), 0)) := by
  obtain ⟨n, hs, hg⟩ := Va.get_in b (byt_rng hb) hlen a ha
  by_cases h10 : n = 10
  · refine .inl ⟨4, by decide, fun k hk => ?_⟩
    rw [hg k hk]; unfold Va.getR; rw [if_pos h10]
  · by_cases hl : a + n = b.length
    · refine .inl ⟨5, by decide, fun k hk => ?_⟩
      rw [hg k hk]; unfold Va.getR; rw [if_neg h10, if_pos hl]
    · by_cases hc : (rd b ((a + n : Nat) : Int) = 0 ∧ 0 < n) ∨ (1 < rd b ((a + n : Nat) : Int) ∧ n = 9)
      · refine .inl ⟨4, by decide, fun k hk => ?_⟩
        rw [hg k hk]; unfold Va.getR; rw [if_neg h10, if_neg hl, if_pos hc]
      · obtain ⟨h1, h2, h3, h4, h5⟩ := Va.get_good b (byt_rng hb) a n hs h10 hl hc
        have h6 := enc_at (by omega) h5
        rw [← en_eq h4] at h6
        exact .inr ⟨_, _, h3, h6, fun k hk => get_back hb hlen h3 h6 hk⟩
theorem cut_mid {b x y z : List Int} {a : Nat} (h : b.drop a = x ++ (y ++ z)) : (b.take (a + x.length + y.length)).drop (a + x.length) = y := by
  rw [List.drop_take, ← List.drop_drop, h, List.drop_left, show a + x.length + y.length - (a + x.length) = y.length by omega, List.take_left]
/-- an event that stands there -/
theorem one_back {b data rest : List Int} (hb : Byt b) (hlen : b.length ≤ 281474976710656) {a u : Nat} (hu : u < 2 ^ 64) {last left : Int} (h : b.drop a = en u ++ (en data.length ++ (data ++ rest)))
    (h1 : data.length ≤ 65536) (h2 : (data.length : Int) ≤ left) (h3 : left ≤ 262144) {k : Nat} (hk : 12 ≤ k) :
    trans_one.f k b (a : Int) last left = some (0, wrap64 (last + ug u), data, ((a + (en u).length + (en data.length).length + data.length : Nat) : Int), 0) := by
  have hd := congrArg List.length h
  simp only [List.length_drop, List.length_append] at hd
  have e1 := en_len u hu
  have e2 := en_len data.length (by omega)
  have h' : b.drop (a + (en u).length) = en data.length ++ (data ++ rest) := by rw [← List.drop_drop, h, List.drop_left]
  unfold trans_one.f
  rw [get_back hb hlen hu h hk]
  simp only [Option.bind_some, if_true]
  rw [get_back hb hlen (by omega) h' hk]
  simp only [Option.bind_some, if_true]
  have hmn : ((data.length : Nat) : Int) ≤ mn left 65536 ∧ mn left 65536 ≤ 65536 := by unfold mn; split <;> omega
  rw [show IntKind.u64.wrap (mn left 65536) = mn left 65536 by rw [Va.wrapU64]; omega, if_neg (by omega), show wrap64 ((data.length : Nat) : Int) = (data.length : Int) from w64 (by omega) (by omega),
    show wrap64 ((b.length : Int) - ((a + (en u).length + (en data.length).length : Nat) : Int)) = (b.length : Int) - ((a + (en u).length + (en data.length).length : Nat) : Int) from w64 (by omega) (by omega), if_neg (by omega),
    show wrap64 (((a + (en u).length + (en data.length).length : Nat) : Int) + (data.length : Int)) = ((a + (en u).length + (en data.length).length + data.length : Nat) : Int) from (w64 (by omega) (by omega)).trans (by omega), zag_ug hu]
  simp only [Option.bind_some, clock_Add.f]
  rw [if_pos (by omega), if_pos (by omega), if_pos (by omega), Int.toNat_natCast, Int.toNat_natCast, cut_mid h']
  unfold bytes_Clone.f
  rw [if_pos (by omega)]
  rfl
/-- an event, or where it is wrong -/
theorem one_spec {b : List Int} (hb : Byt b) (hlen : b.length ≤ 281474976710656) {a : Nat} (ha : a ≤ b.length) {last left : Int} (h2 : 0 ≤ left) (h3 : left ≤ 262144) :
    (∃ (p : Nat) (e : Int), e ≠ 0 ∧ a ≤ p ∧ p ≤ b.length ∧ ∀ k, 12 ≤ k → trans_one.f k b (a : Int) last left = some (0, 0, [], (p : Int), e)) ∨
    (∃ u data rest, u < 2 ^ 64 ∧ b.drop a = en u ++ (en data.length ++ (data ++ rest)) ∧ data.length ≤ 65536 ∧ (data.length : Int) ≤ left) := by
  rcases get_spec hb hlen ha with ⟨e, he, hg⟩ | ⟨u, r1, hu, h1, hg⟩
  · refine .inl ⟨a, e, he, Nat.le_refl _, ha, fun k hk => ?_⟩
    unfold trans_one.f
    rw [hg k hk]
    simp only [Option.bind_some]
    rw [if_neg he]
  · have e1 := en_len u hu
    have hd := congrArg List.length h1
    simp only [List.length_drop, List.length_append] at hd
    have h' : b.drop (a + (en u).length) = r1 := by rw [← List.drop_drop, h1, List.drop_left]
    rcases get_spec hb hlen (show a + (en u).length ≤ b.length by omega) with ⟨e, he, hg2⟩ | ⟨n, r2, hn, h4, hg2⟩
    · refine .inl ⟨a + (en u).length, e, he, by omega, by omega, fun k hk => ?_⟩
      unfold trans_one.f
      rw [hg k hk]
      simp only [Option.bind_some, if_true]
      rw [hg2 k hk]
      simp only [Option.bind_some]
      rw [if_neg he]
    · have e2 := en_len n hn
      have hd2 := congrArg List.length h4
      simp only [List.length_drop, List.length_append] at hd2
      have hmn : mn left 65536 ≤ 65536 ∧ 0 ≤ mn left 65536 ∧ mn left 65536 ≤ left := by unfold mn; split <;> omega
      have w4 := Lib.hid (show IntKind.u64.wrap (mn left 65536) = mn left 65536 by rw [Va.wrapU64]; omega)
      have w2 := Lib.hid (show wrap64 ((b.length : Int) - ((a + (en u).length + (en n).length : Nat) : Int)) = (b.length : Int) - ((a + (en u).length + (en n).length : Nat) : Int) from w64 (by omega) (by omega))
      by_cases c1 : (n : Int) > mn left 65536
      · refine .inl ⟨a + (en u).length, 6, by decide, by omega, by omega, fun k hk => ?_⟩
        unfold trans_one.f
        rw [hg k hk]
        simp only [Option.bind_some, if_true]
        rw [hg2 k hk]
        simp only [Option.bind_some, if_true]
        rw [w4.out, if_pos c1]
      · have w1 := Lib.hid (show wrap64 ((n : Nat) : Int) = (n : Int) from w64 (by omega) (by omega))
        by_cases c2 : (n : Int) > (b.length : Int) - ((a + (en u).length + (en n).length : Nat) : Int)
        · refine .inl ⟨b.length, 5, by decide, by omega, by omega, fun k hk => ?_⟩
          unfold trans_one.f
          rw [hg k hk]
          simp only [Option.bind_some, if_true]
          rw [hg2 k hk]
          simp only [Option.bind_some, if_true]
          rw [w4.out, if_neg c1, w1.out, w2.out, if_pos c2]
        · have hr : (r2.take n).length = n := by rw [List.length_take]; omega
          refine .inr ⟨u, r2.take n, r2.drop n, hu, ?_, by omega, by omega⟩
          rw [hr, List.take_append_drop, ← h4, h', h1]
theorem drop_cons {b : List Int} {a : Nat} (h : a < b.length) : b.drop a = b[a] :: b.drop (a + 1) := List.drop_eq_getElem_cons h
/-- what the events of a row of bytes are -/
def Told (last : Int) (left : Int) (n : Nat) (s : List Int) (l : List S43) (f : Bool) : Prop :=
  s = evs last l ++ fin f ∧ (∀ x ∈ l, Ok1 x ∧ I64 x.f1) ∧ n + l.length ≤ 4096 ∧ (tot l : Int) ≤ left
theorem l1_end {b : List Int} {last left : Int} {acc : List S43} {f : Bool} {k : Nat} (hk : 1 ≤ k) : trans_Decode.l1 k b (b.length : Int) last left 0 acc f = some (acc, f, 0, 0) := by
  obtain ⟨k, rfl⟩ : ∃ m, k = m + 1 := ⟨k - 1, by omega⟩
  rw [trans_Decode.l1, if_neg (by omega), if_pos rfl]
theorem byte_range {b : List Int} (hb : Byt b) {a : Nat} (h : a < b.length) : 0 ≤ b[a] ∧ b[a] < 256 := hb _ (List.getElem_mem h)
/-- the round at a tag of an event -/
theorem l1_tag {b : List Int} (hb : Byt b) (hlen : b.length ≤ 281474976710656) {a : Nat} (h : a < b.length) (ht : b[a] = 1 ∨ b[a] = 2) {last left : Int} {acc : List S43} (ha : acc.length ≤ 4096) (k : Nat) :
    trans_Decode.l1 (k + 3) b (a : Int) last left 0 acc false = (if acc.length = 4096 then some ([], false, (a : Int), 10) else (trans_one.f k b ((a + 1 : Nat) : Int) last left).bind fun t => (if t.2.2.2.2 = 0 then trans_Decode.l1 k b t.2.2.2.1 t.2.1 (wrap64 (left - (t.2.2.1.length : Int))) t.2.2.2.2 (acc ++ [(⟨b[a] - 1, t.2.1, t.2.2.1⟩ : S43)]) false else some ([], false, t.2.2.2.1, t.2.2.2.2))) := by
  have hw : wrap64 ((a : Int) + 1) = ((a + 1 : Nat) : Int) := by unfold wrap64; omega
  have hw2 : wrap64 (wrap64 b[a] - 1) = b[a] - 1 := by unfold wrap64; omega
  rw [trans_Decode.l1, if_pos (by omega), if_pos (by omega), rd_nat h, if_neg (by omega), trans_Decode.j2, if_neg (by decide), if_neg (by omega)]
  have hj : trans_Decode.j3 (k + 1) b (a : Int) last left b[a] false acc false = (if acc.length = 4096 then some ([], false, (a : Int), 10) else (trans_one.f k b ((a + 1 : Nat) : Int) last left).bind fun t => (if t.2.2.2.2 = 0 then trans_Decode.l1 k b t.2.2.2.1 t.2.1 (wrap64 (left - (t.2.2.1.length : Int))) t.2.2.2.2 (acc ++ [(⟨b[a] - 1, t.2.1, t.2.2.1⟩ : S43)]) false else some ([], false, t.2.2.2.1, t.2.2.2.2))) := by
    rw [trans_Decode.j3, if_neg (by decide)]
    by_cases c : acc.length = 4096
    · rw [if_pos (by omega), if_neg (by decide), if_pos c]
    · rw [if_neg (by omega), if_neg c, hw, hw2]
      congr 1
      funext t
      by_cases c2 : t.2.2.2.2 = 0
      · rw [if_pos c2, if_pos c2, if_pos (by omega)]
      · rw [if_neg c2, if_neg c2]
  rcases ht with ht | ht
  · rw [if_pos ht, hj]
  · rw [if_neg (by omega), show (b[a] != 2) = false by rw [ht]; rfl, hj]
theorem ug_back {u : Nat} (h : u < 2 ^ 64) (last : Int) : wrap64 (wrap64 (last + ug u) - last) = ug u := by
  have := ug_i64 h
  unfold I64 at this
  unfold wrap64
  omega
theorem time_back {x last : Int} (h : I64 x) : wrap64 (last + wrap64 (x - last)) = x := by
  unfold I64 at h
  unfold wrap64
  omega
theorem l1_three {b : List Int} (hlen : b.length ≤ 281474976710656) {a : Nat} (h : a < b.length) (ht : b[a] = 3) {last left : Int} {acc : List S43} (k : Nat) :
    trans_Decode.l1 (k + 2) b (a : Int) last left 0 acc false = if a + 1 = b.length then some (acc, true, 0, 0) else some ([], false, ((a + 1 : Nat) : Int), 4) := by
  rw [trans_Decode.l1, if_pos (by omega), if_pos (by omega), rd_nat h, if_pos ht, trans_Decode.j2, show wrap64 ((a : Int) + 1) = ((a + 1 : Nat) : Int) from (w64 (by omega) (by omega)).trans (by omega)]
  by_cases c : a + 1 = b.length
  · rw [if_pos c, if_pos (by rw [c]; simp), if_pos rfl]
  · rw [if_neg c, if_neg (by simpa using (show ¬ ((a : Int) + 1 = (b.length : Int)) by omega)), if_pos ht, if_neg (by decide)]
theorem l1_other {b : List Int} {a : Nat} (h : a < b.length) (h3 : b[a] ≠ 3) (h1 : b[a] ≠ 1) (h2 : b[a] ≠ 2) {last left : Int} {acc : List S43} (k : Nat) :
    trans_Decode.l1 (k + 3) b (a : Int) last left 0 acc false = some ([], false, (a : Int), 4) := by
  rw [trans_Decode.l1, if_pos (by omega), if_pos (by omega), rd_nat h, if_neg h3, trans_Decode.j2, if_neg (by decide), if_neg h3, if_neg h1, show (b[a] != 2) = true by simpa using h2, trans_Decode.j3, if_pos rfl, if_neg (by decide)]
/-- Decode behind the magic: it tells events, or an error at a place -/
theorem dec_l1 {b : List Int} (hb : Byt b) (hlen : b.length ≤ 281474976710656) (d : Nat) : ∀ (a k : Nat) (last left : Int) (acc : List S43), a + d = b.length → 3 * d + 20 ≤ k → acc.length ≤ 4096 → 0 ≤ left → left ≤ 262144 →
    (∃ l f, Told last left acc.length (b.drop a) l f ∧ trans_Decode.l1 k b (a : Int) last left 0 acc false = some (acc ++ l, f, 0, 0)) ∨
    (∃ (p : Nat) (e : Int), e ≠ 0 ∧ p ≤ b.length ∧ trans_Decode.l1 k b (a : Int) last left 0 acc false = some ([], false, (p : Int), e)) := by
  induction d using Nat.strongRecOn with
  | _ d ih =>
  intro a k last left acc hd hk hacc h0 h1
  by_cases hend : d = 0
  · subst hend
    obtain rfl : a = b.length := by omega
    exact .inl ⟨[], false, ⟨by simp [evs, fin], by simp, by simpa using hacc, by simpa [tot] using h0⟩, by rw [l1_end (by omega)]; simp⟩
  have hlt : a < b.length := by omega
  by_cases h3 : b[a] = 3
  · obtain ⟨k, rfl⟩ : ∃ m, k = m + 2 := ⟨k - 2, by omega⟩
    rw [l1_three hlen hlt h3]
    by_cases c : a + 1 = b.length
    · refine .inl ⟨[], true, ⟨?_, by simp, by simpa using hacc, by simpa [tot] using h0⟩, by rw [if_pos c]; simp⟩
      rw [drop_cons hlt, h3, List.drop_of_length_le (by omega)]
      rfl
    · exact .inr ⟨a + 1, 4, by decide, by omega, if_neg c⟩
  obtain ⟨k, rfl⟩ : ∃ m, k = m + 3 := ⟨k - 3, by omega⟩
  by_cases ht : b[a] = 1 ∨ b[a] = 2
  · rw [l1_tag hb hlen hlt ht hacc]
    by_cases c : acc.length = 4096
    · exact .inr ⟨a, 10, by decide, by omega, by rw [if_pos c]⟩
    rw [if_neg c]
    rcases one_spec hb hlen (show a + 1 ≤ b.length by omega) (last := last) h0 h1 with ⟨p, e, he, hp1, hp2, hg⟩ | ⟨u, data, rest, hu, hdrop, hdl, hdl2⟩
    · rw [hg k (by omega)]
      simp only [Option.bind_some]
      rw [if_neg he]
      exact .inr ⟨p, e, he, hp2, rfl⟩
    · rw [one_back hb hlen hu hdrop hdl hdl2 h1 (by omega)]
      simp only [Option.bind_some, if_true]
      have e1 := en_len u hu
      have e2 := en_len data.length (by omega)
      have hl := congrArg List.length hdrop
      simp only [List.length_drop, List.length_append] at hl
      have hrest : rest = b.drop (a + 1 + (en u).length + (en data.length).length + data.length) := by
        rw [← List.drop_drop, ← List.drop_drop, ← List.drop_drop, hdrop, List.drop_left, List.drop_left, List.drop_left]
      rw [show wrap64 (left - (data.length : Int)) = left - (data.length : Int) from w64 (by omega) (by omega)]
      generalize hnx : a + 1 + (en u).length + (en data.length).length + data.length = next at hrest ⊢
      rcases ih (b.length - next) (by omega) next k (wrap64 (last + ug u)) (left - data.length) (acc ++ [(⟨b[a] - 1, wrap64 (last + ug u), data⟩ : S43)]) (by omega) (by omega) (by simp; omega) (by omega) (by omega) with ⟨l, f, ⟨hs, hok, hn, htt⟩, hr⟩ | ⟨p, e, he, hp, hr⟩
      · refine .inl ⟨⟨b[a] - 1, wrap64 (last + ug u), data⟩ :: l, f, ⟨?_, ?_, ?_, ?_⟩, by rw [hr]; simp⟩
        · rw [drop_cons hlt, hdrop, hrest, hs, evs, evb]
          simp only [ug_back hu, zg_ug]
          rw [show 1 + (b[a] - 1) = b[a] by omega]
          simp
        · intro x hx
          rcases List.mem_cons.1 hx with rfl | hx
          · exact ⟨⟨by show b[a] - 1 = 0 ∨ b[a] - 1 = 1; omega, hdl⟩, wrap_i64 _⟩
          · exact hok x hx
        · simp only [List.length_append, List.length_cons, List.length_nil] at hn ⊢
          omega
        · rw [tot_cons]
          simp only
          omega
      · exact .inr ⟨p, e, he, hp, hr⟩
  · exact .inr ⟨a, 4, by decide, by omega, l1_other hlt h3 (by omega) (by omega) k⟩
theorem tag_of {b s : List Int} {a : Nat} {last : Int} {x : S43} (h : b.drop a = evb last x ++ s) : ∃ h : a < b.length, b[a] = 1 + x.f0 ∧ b.drop (a + 1) = en (zg (wrap64 (x.f1 - last))) ++ (en x.f2.length ++ (x.f2 ++ s)) := by
  have hl := congrArg List.length h
  unfold evb at hl h
  simp only [List.length_drop, List.length_append, List.length_cons] at hl
  have hlt : a < b.length := by omega
  rw [drop_cons hlt] at h
  simp only [List.cons_append, List.append_assoc] at h
  injection h with h1 h2
  exact ⟨hlt, h1, h2⟩
/-- the round at an event that stands there whole -/
theorem l1_ev {b s : List Int} (hb : Byt b) (hlen : b.length ≤ 281474976710656) {a : Nat} {last left : Int} {acc : List S43} {x : S43} (h : b.drop a = evb last x ++ s) (hx : Ok1 x ∧ I64 x.f1) (hacc : acc.length < 4096) (h2 : (x.f2.length : Int) ≤ left) (h3 : left ≤ 262144) {k : Nat} (hk : 12 ≤ k) :
    b.drop (a + (evb last x).length) = s ∧ trans_Decode.l1 (k + 3) b (a : Int) last left 0 acc false = trans_Decode.l1 k b ((a + (evb last x).length : Nat) : Int) x.f1 (left - (x.f2.length : Int)) 0 (acc ++ [x]) false := by
  have hs : b.drop (a + (evb last x).length) = s := by rw [← List.drop_drop, h, List.drop_left]
  obtain ⟨hlt, ht, hd⟩ := tag_of h
  have hz := zg_lt (wrap_i64 (x.f1 - last))
  have e1 := en_len _ hz
  have e2 := en_len x.f2.length (by have := hx.1.2; omega)
  have hn := hx.1.2
  have hf := hx.1.1
  refine ⟨hs, ?_⟩
  rw [l1_tag hb hlen hlt (by omega) (by omega), if_neg (by omega), one_back hb hlen hz hd hx.1.2 h2 h3 hk]
  simp only [Option.bind_some, if_true]
  rw [ug_zg, time_back hx.2, show wrap64 (left - (x.f2.length : Int)) = left - (x.f2.length : Int) from w64 (by omega) (by omega), ht, show 1 + x.f0 - 1 = x.f0 by omega]
  congr 1
  unfold evb
  simp only [List.length_append, List.length_cons]
  omega
/-- Decode, out of what was encoded -/
theorem dec_back {b : List Int} (hb : Byt b) (hlen : b.length ≤ 281474976710656) (f : Bool) (l : List S43) : ∀ (a k : Nat) (last left : Int) (acc : List S43), b.drop a = evs last l ++ fin f → a ≤ b.length → 3 * l.length + 20 ≤ k → acc.length + l.length ≤ 4096 → (∀ x ∈ l, Ok1 x ∧ I64 x.f1) → (tot l : Int) ≤ left → left ≤ 262144 →
    trans_Decode.l1 k b (a : Int) last left 0 acc false = some (acc ++ l, f, 0, 0) := by
  induction l with
  | nil =>
    intro a k last left acc h ha hk _ _ _ _
    simp only [evs, List.nil_append] at h
    have hl := congrArg List.length h
    rw [List.length_drop] at hl
    cases f with
    | false =>
      obtain rfl : a = b.length := by simp [fin] at hl; omega
      rw [l1_end (by omega)]
      simp
    | true =>
      have hl' : b.length - a = 1 := hl
      have hlt : a < b.length := by omega
      obtain ⟨k, rfl⟩ : ∃ m, k = m + 2 := ⟨k - 2, by omega⟩
      have h3 : b[a] = 3 := by
        rw [drop_cons hlt] at h
        injection h
      rw [l1_three hlen hlt h3, if_pos (by omega)]
      simp
  | cons x r ih =>
    intro a k last left acc h ha hk hn hok ht h3
    rw [evs, List.append_assoc] at h
    rw [tot_cons] at ht
    simp only [List.length_cons] at hk hn
    obtain ⟨k, rfl⟩ : ∃ m, k = m + 3 := ⟨k - 3, by omega⟩
    obtain ⟨hs, hr⟩ := l1_ev (acc := acc) hb hlen h (hok x (List.mem_cons_self ..)) (by omega) (show (x.f2.length : Int) ≤ left by omega) h3 (show 12 ≤ k by omega)
    have hle : a + (evb last x).length ≤ b.length := by
      have hl := congrArg List.length h
      simp only [List.length_drop, List.length_append] at hl
      have := evb_len last x (hok x (List.mem_cons_self ..)).1.2
      omega
    rw [hr, ih _ k _ _ (acc ++ [x]) hs hle (by omega) (by rw [List.length_append, List.length_singleton]; omega) (fun y hy => hok y (List.mem_cons_of_mem _ hy)) (by omega) (by omega)]
    simp
theorem magic_bt (i : Nat) (h : i < 4) : bt (⟨#[67, 85, 69, 49]⟩ : ByteArray) (i : Int) = ([67, 85, 69, 49] : List Int)[i] := by
  match i, h with
  | 0, _ => rfl
  | 1, _ => rfl
  | 2, _ => rfl
  | 3, _ => rfl
/-- the magic's loop -/
theorem dec_l0 {b : List Int} (d : Nat) : ∀ (i k : Nat), i + d = 4 → d + 1 ≤ k → i ≤ b.length → b.take i = ([67, 85, 69, 49] : List Int).take i →
    (∃ r, b = [67, 85, 69, 49] ++ r ∧ trans_Decode.l0 k b (i : Int) = trans_Decode.l1 (k - d - 1) b 4 0 262144 0 [] false) ∨
    (∃ (p : Nat) (e : Int), e ≠ 0 ∧ p ≤ b.length ∧ (∀ r, b ≠ [67, 85, 69, 49] ++ r) ∧ (e = 5 ∧ p = b.length ∨ ∀ s, ¬ b <+: [67, 85, 69, 49] ++ s) ∧ trans_Decode.l0 k b (i : Int) = some ([], false, (p : Int), e)) := by
  induction d with
  | zero =>
    intro i k hi hk hle ht
    obtain rfl : i = 4 := by omega
    obtain ⟨k, rfl⟩ : ∃ m, k = m + 1 := ⟨k - 1, by omega⟩
    refine .inl ⟨b.drop 4, ?_, ?_⟩
    · conv => lhs; rw [← List.take_append_drop 4 b, ht]
      rfl
    · rw [trans_Decode.l0, if_neg (by omega)]
      rfl
  | succ d ih =>
    intro i k hi hk hle ht
    obtain ⟨k, rfl⟩ : ∃ m, k = m + 1 := ⟨k - 1, by omega⟩
    rw [trans_Decode.l0, if_pos (by omega)]
    by_cases c : i = b.length
    · refine .inr ⟨i, 5, by decide, hle, fun r hr => ?_, .inl ⟨rfl, c⟩, by rw [if_pos (by omega)]⟩
      have := congrArg List.length hr
      simp only [List.length_append, List.length_cons, List.length_nil] at this
      omega
    · have hlt : i < b.length := by omega
      rw [if_neg (by omega), if_pos (by omega), if_pos (by omega), rd_nat hlt, magic_bt i (by omega)]
      by_cases c2 : b[i] = ([67, 85, 69, 49] : List Int)[i]'(by show i < 4; omega)
      · rw [if_pos c2, show wrap64 ((i : Int) + 1) = ((i + 1 : Nat) : Int) from (w64 (by omega) (by omega)).trans (by omega)]
        have ht' : b.take (i + 1) = ([67, 85, 69, 49] : List Int).take (i + 1) := by
          rw [List.take_succ_eq_append_getElem hlt, List.take_succ_eq_append_getElem (show i < ([67, 85, 69, 49] : List Int).length by show i < 4; omega), ht, c2]
        rcases ih (i + 1) k (by omega) (by omega) (by omega) ht' with ⟨r, h1, h2⟩ | h
        · refine .inl ⟨r, h1, h2.trans ?_⟩
          rw [show k + 1 - (d + 1) - 1 = k - d - 1 by omega]
        · exact .inr h
      · have hno : ∀ s, ¬ b <+: ([67, 85, 69, 49] : List Int) ++ s := fun s hs => by
          apply c2
          have h1 := hs.getElem hlt
          rw [h1, List.getElem_append_left (show i < ([67, 85, 69, 49] : List Int).length by show i < 4; omega)]
        refine .inr ⟨i, 4, by decide, by omega, fun r hr => hno r (hr ▸ List.prefix_refl _), .inr hno, by rw [if_neg c2]⟩
theorem trn_eq (l : List S43) (f : Bool) : trn l f = [67, 85, 69, 49] ++ (evs 0 l ++ fin f) := rfl
/-- Decode: the transcript whose bytes these are, or an error at a place -/
theorem dec_spec {b : List Int} (hb : Byt b) (hlen : b.length ≤ 281474976710656) {k : Nat} (hk : 3 * b.length + 40 ≤ k) :
    (∃ l f, Good l ∧ (∀ x ∈ l, I64 x.f1) ∧ b = trn l f ∧ trans_Decode.f k b = some (l, f, 0, 0)) ∨
    (∃ (p : Nat) (e : Int), e ≠ 0 ∧ p ≤ b.length ∧ trans_Decode.f k b = some ([], false, (p : Int), e)) := by
  rcases dec_l0 (b := b) 4 0 k (by omega) (by omega) (by omega) rfl with ⟨r, hr, h⟩ | ⟨p, e, he, hp, _, _, h⟩
  · have hl := congrArg List.length hr
    simp only [List.length_append, List.length_cons, List.length_nil] at hl
    have hd : b.drop 4 = r := by rw [hr]; rfl
    rcases dec_l1 hb hlen r.length 4 (k - 4 - 1) 0 262144 [] (by omega) (by omega) (by simp) (by omega) (by omega) with ⟨l, f, ⟨h1, h2, h3, h4⟩, h5⟩ | ⟨p, e, he, hp, h5⟩
    · refine .inl ⟨l, f, ⟨by simpa using h3, fun x hx => (h2 x hx).1, by omega⟩, fun x hx => (h2 x hx).2, ?_, h.trans h5⟩
      rw [trn_eq, ← h1, hd]
      exact hr
    · exact .inr ⟨p, e, he, hp, h.trans h5⟩
  · exact .inr ⟨p, e, he, hp, h⟩
theorem byt_evb {last : Int} {x : S43} (h : Ok1 x) (hd : ∀ c ∈ x.f2, 0 ≤ c ∧ c < 256) : Byt (evb last x) := by
  intro c hc
  unfold evb at hc
  rcases List.mem_cons.1 hc with rfl | hc
  · have := h.1; omega
  · rcases List.mem_append.1 hc with hc | hc
    · exact en_rng _ c hc
    · rcases List.mem_append.1 hc with hc | hc
      · exact en_rng _ c hc
      · exact hd c hc
theorem byt_evs (l : List S43) : ∀ last, (∀ x ∈ l, Ok1 x) → (∀ x ∈ l, ∀ c ∈ x.f2, 0 ≤ c ∧ c < 256) → Byt (evs last l) := by
  induction l with
  | nil => intro _ _ _ c hc; cases hc
  | cons x r ih =>
    intro last h hd c hc
    rw [evs] at hc
    rcases List.mem_append.1 hc with hc | hc
    · exact byt_evb (h x (List.mem_cons_self ..)) (hd x (List.mem_cons_self ..)) c hc
    · exact ih x.f1 (fun y hy => h y (List.mem_cons_of_mem _ hy)) (fun y hy => hd y (List.mem_cons_of_mem _ hy)) c hc
theorem byt_trn {l : List S43} (h : ∀ x ∈ l, Ok1 x) (hd : ∀ x ∈ l, ∀ c ∈ x.f2, 0 ≤ c ∧ c < 256) (f : Bool) : Byt (trn l f) := by
  intro c hc
  rw [trn_eq] at hc
  rcases List.mem_append.1 hc with hc | hc
  · simp at hc; omega
  · rcases List.mem_append.1 hc with hc | hc
    · exact byt_evs l 0 h hd c hc
    · unfold fin at hc
      split at hc <;> simp at hc
      omega
/-- an event as it comes in -/
def In1 (x : S43) : Prop := I64 x.f1 ∧ ∀ c ∈ x.f2, 0 ≤ c ∧ c < 256
theorem dec_trn {l : List S43} (g : Good l) (hin : ∀ x ∈ l, In1 x) (f : Bool) {k : Nat} (hk : 3 * (trn l f).length + 40 ≤ k) : trans_Decode.f k (trn l f) = some (l, f, 0, 0) := by
  have hb := byt_trn g.2.1 (fun x hx => (hin x hx).2) f
  have hlen := trn_len g f
  rcases dec_l0 (b := trn l f) 4 0 k (by omega) (by omega) (by omega) rfl with ⟨r, hr, h⟩ | ⟨p, e, he, hp, hno, _⟩
  · have hd : (trn l f).drop 4 = evs 0 l ++ fin f := rfl
    have hel := g.1
    have e3 : ∀ (m : List S43) last, (∀ x ∈ m, Ok1 x) → 3 * m.length ≤ (evs last m).length := by
      intro m
      induction m with
      | nil => intro _ _; simp
      | cons x r ih =>
        intro last hm
        have h1 := (evb_len last x (hm x (List.mem_cons_self ..)).2).1
        have h2 := ih x.f1 (fun y hy => hm y (List.mem_cons_of_mem _ hy))
        rw [evs, List.length_append, List.length_cons]
        omega
    have h3 := e3 l 0 g.2.1
    have hl4 : (trn l f).length = 4 + ((evs 0 l).length + (fin f).length) := by
      rw [trn_eq]; simp only [List.length_append, List.length_cons, List.length_nil]
    exact h.trans (dec_back hb (by omega) f l 4 (k - 4 - 1) 0 262144 [] hd (by omega) (by omega) (by simpa using g.1) (fun x hx => ⟨g.2.1 x hx, (hin x hx).1⟩) (by have := g.2.2; omega) (by omega))
  · exact absurd (trn_eq l f) (hno _)
theorem byt_inj : ∀ {a b : List Int}, Byt a → Byt b → (strOfNums a).toList = (strOfNums b).toList → a = b := by
  intro a
  induction a with
  | nil =>
    intro b _ _ h
    rw [Go.Lib.strOfNums_toList, Go.Lib.strOfNums_toList] at h
    cases b with
    | nil => rfl
    | cons y b => simp [Go.Lib.bytesOf] at h
  | cons x a ih =>
    intro b ha hb h
    rw [Go.Lib.strOfNums_toList, Go.Lib.strOfNums_toList] at h
    cases b with
    | nil => simp [Go.Lib.bytesOf] at h
    | cons y b =>
      simp only [Go.Lib.bytesOf, List.map_cons, List.cons.injEq] at h
      have hx := ha x (by simp)
      have hy := hb y (by simp)
      have h1 := congrArg UInt8.toNat h.1
      have e1 : x = y := by
        simp only [UInt8.toNat_ofNat'] at h1
        omega
      have e2 : a = b := ih (fun z hz => ha z (List.mem_cons_of_mem _ hz)) (fun z hz => hb z (List.mem_cons_of_mem _ hz)) (by rw [Go.Lib.strOfNums_toList, Go.Lib.strOfNums_toList]; exact h.2)
      rw [e1, e2]
theorem evEq_eq {x y : S43} (hx : Byt x.f2) (hy : Byt y.f2) (h : evEq x y = true) : x = y := by
  unfold evEq at h
  simp only [Bool.and_eq_true, beq_iff_eq] at h
  obtain ⟨h0, h1, h2⟩ := h
  have h3 := byt_inj hx hy h2
  cases x; cases y
  simp_all
theorem sameB_eq {l m : List S43} (hl : ∀ x ∈ l, Byt x.f2) (hm : ∀ x ∈ m, Byt x.f2) (h : sameB l m = true) : l = m := by
  unfold sameB at h
  simp only [Bool.and_eq_true, decide_eq_true_eq, List.all_eq_true] at h
  obtain ⟨h1, h2⟩ := h
  refine List.ext_getElem h1 fun i hi hj => ?_
  refine evEq_eq (hl _ (List.getElem_mem hi)) (hm _ (List.getElem_mem hj)) (h2 (l[i], m[i]) ?_)
  have : (l.zip m)[i]? = some (l[i], m[i]) := by simp [List.getElem?_zip_eq_some, hi, hj]
  exact List.mem_of_getElem? this
theorem small_of_good {l : List S43} (g : Good l) : small l := by
  have e : ∀ m : List S43, (m.map fun x => x.f2.length + 4).sum = tot m + 4 * m.length := by
    intro m
    induction m with
    | nil => simp [tot]
    | cons x r ih => rw [tot_cons, List.map_cons, List.sum_cons, ih, List.length_cons]; omega
  unfold small
  rw [e]
  have := g.1
  have := g.2.2
  omega
namespace Va
/-! ### the document's Get -/
theorem same_l0 (b c : List Int) (hc : c.length ≤ b.length) (hl : b.length ≤ 281474976710656) (d : Nat) : ∀ (i : Nat), i ≤ c.length → c.length - i = d → (∀ j, j < i → rd b (j : Int) = rd c (j : Int)) →
    ∃ r : Bool, (∀ k, d < k → cuecardref02_same.l0 k b c (i : Int) = some r) ∧ (r = true ↔ ∀ j, j < c.length → rd b (j : Int) = rd c (j : Int)) := by
  induction d with
  | zero =>
    intro i h1 h2 h3
    obtain rfl : i = c.length := by omega
    refine ⟨true, fun k hk => ?_, ⟨fun _ => h3, fun _ => rfl⟩⟩
    obtain ⟨k, rfl⟩ : ∃ m, k = m + 1 := ⟨k - 1, by omega⟩
    simp only [cuecardref02_same.l0]
    rw [if_neg (by omega)]
  | succ d ih =>
    intro i h1 h2 h3
    by_cases e : rd b (i : Int) = rd c (i : Int)
    · obtain ⟨r, hr, hr'⟩ := ih (i + 1) (by omega) (by omega) (fun j hj => by
        rcases Nat.lt_or_ge j i with h | h
        · exact h3 j h
        · obtain rfl : j = i := by omega
          exact e)
      refine ⟨r, fun k hk => ?_, hr'⟩
      obtain ⟨k, rfl⟩ : ∃ m, k = m + 1 := ⟨k - 1, by omega⟩
      simp only [cuecardref02_same.l0]
      rw [if_pos (by omega), if_pos (by omega), if_pos (by omega), if_pos e, wr_i (by omega)]
      exact hr k (by omega)
    · refine ⟨false, fun k hk => ?_, ⟨fun h => (by cases h), fun h => absurd (h i (by omega)) e⟩⟩
      obtain ⟨k, rfl⟩ : ∃ m, k = m + 1 := ⟨k - 1, by omega⟩
      simp only [cuecardref02_same.l0]
      rw [if_pos (by omega), if_pos (by omega), if_pos (by omega), if_neg e]
theorem same_f (b c : List Int) (hl : b.length ≤ 281474976710656) : ∃ r : Bool, (∀ k, c.length + 1 < k → cuecardref02_same.f k b c = some r) ∧ (r = true ↔ c.length ≤ b.length ∧ ∀ j, j < c.length → rd b (j : Int) = rd c (j : Int)) := by
  by_cases h : b.length < c.length
  · refine ⟨false, fun k hk => ?_, ⟨fun h => (by cases h), fun h' => absurd h'.1 (by omega)⟩⟩
    unfold cuecardref02_same.f
    rw [if_pos (by omega)]
  · obtain ⟨r, hr, hr'⟩ := same_l0 b c (by omega) hl c.length 0 (by omega) rfl (fun j hj => by omega)
    refine ⟨r, fun k hk => ?_, ⟨fun h' => ⟨by omega, hr'.1 h'⟩, fun h' => hr'.2 h'.2⟩⟩
    unfold cuecardref02_same.f
    rw [if_neg (by omega)]
    exact hr k (by omega)
open Classical in
/-- what the loop over the bytes, from the last one on, ends in -/
noncomputable def endR (p : List Int) (a n : Nat) (x : Nat) : Int × Int × Int :=
  if n + 1 ≤ p.length ∧ Cnt x (n + 1) ∧ ∀ j, j < n + 1 → rd p (j : Int) = byt x (n + 1) j then ((x : Int), ((a + n + 1 : Nat) : Int), 0) else (0, 0, 4)
theorem wr_an (a n : Nat) (ha : a ≤ 281474976710656) (hn : n ≤ 9) : wrap64 (wrap64 ((a : Int) + (n : Int)) + 1) = ((a + n + 1 : Nat) : Int) := by unfold wrap64; omega
theorem horner (V i : Nat) : V / 128 ^ (i + 1) * 128 + dgt V i = V / 128 ^ i := by
  unfold dgt
  rw [Nat.pow_succ, ← Nat.div_div_eq_div_mul]
  omega
theorem ref_l1 (p : List Int) (hp : Rng p) (hl : p.length ≤ 281474976710656) (a n : Nat) (ha : a ≤ 281474976710656) (hn : n ≤ 9) (hnl : n < p.length) (i : Nat) : i ≤ n + 1 →
    ∀ k, i + 40 < k → cuecardref02_Get.l1 k (a : Int) p (n : Int) (((val p 0 (n + 1)) / 128 ^ i % 2 ^ 64 : Nat) : Int) ((i : Int) - 1) = some (endR p a n (val p 0 (n + 1) % 2 ^ 64)) := by
  induction i with
  | zero =>
    intro _ k hk
    obtain ⟨k, rfl⟩ : ∃ m, k = m + 1 := ⟨k - 1, by omega⟩
    rw [Nat.pow_zero, Nat.div_one]
    obtain ⟨x, hx⟩ : ∃ x, val p 0 (n + 1) % 2 ^ 64 = x := ⟨_, rfl⟩
    have hx64 : x < 2 ^ 64 := by rw [← hx]; exact Nat.mod_lt _ (by decide)
    rw [hx]
    obtain ⟨m, hm⟩ := Cnt.exists x hx64
    have hm2 := hm.2.1
    obtain ⟨r, hr, hr'⟩ := same_f p (enc x m) hl
    rw [enc_length] at hr hr'
    simp only [cuecardref02_Get.l1]
    rw [if_neg (by omega), refput_f x m hx64 hm k (by omega)]
    simp only [Option.bind_some]
    rw [hr k (by omega)]
    simp only [Option.bind_some]
    have ew : wrap64 ((n : Int) + 1) = ((n + 1 : Nat) : Int) := wr_i (by omega)
    have ew2 := wr_an a n ha hn
    rw [ew, ew2, enc_length]
    unfold endR
    by_cases hmn : m = n + 1
    · subst hmn
      cases r with
      | true =>
        have := hr'.1 rfl
        rw [if_pos rfl, if_pos rfl, if_pos ⟨this.1, hm, fun j hj => by rw [this.2 j hj, enc_rd x _ j hj]⟩]
      | false =>
        rw [if_neg (by simp), if_neg (fun h => by have := hr'.2 ⟨h.1, fun j hj => by rw [h.2.2 j hj, enc_rd x _ j hj]⟩; cases this)]
    · rw [if_neg (show ¬ ((m : Int) = ((n + 1 : Nat) : Int)) by omega), ite_self]
      rw [if_neg (fun h => hmn (hm.unique h.2.1))]
  | succ i ih =>
    intro hi k hk
    obtain ⟨k, rfl⟩ : ∃ m, k = m + 1 := ⟨k - 1, by omega⟩
    have hir := hp i (by omega)
    have e0 : ((i + 1 : Nat) : Int) - 1 = (i : Int) := by omega
    have e1 : wrap64 ((i : Int) - 1) = (i : Int) - 1 := by unfold wrap64; omega
    obtain ⟨c, hc⟩ := Int.eq_ofNat_of_zero_le hir.1
    have hd : dgt (val p 0 (n + 1)) i = c % 128 := by
      have := digits_val p 0 (n + 1) i (by omega)
      rw [Nat.zero_add, hc, Int.toNat_natCast] at this
      exact this
    have e2 : IntKind.u64.wrap ((IntKind.u64.wrap ((((val p 0 (n + 1)) / 128 ^ (i + 1) % 2 ^ 64 : Nat) : Int) * 128)) + (IntKind.u64.wrap (Int.tmod (c : Int) 128))) = (((val p 0 (n + 1)) / 128 ^ i % 2 ^ 64 : Nat) : Int) := by
      rw [← horner (val p 0 (n + 1)) i, hd, Int.tmod_eq_emod_of_nonneg (by omega)]
      generalize val p 0 (n + 1) / 128 ^ (i + 1) = q
      have w : ∀ n : Int, IntKind.u64.wrap n = n % 18446744073709551616 := fun n => by simp [IntKind.wrap, IntKind.bits, IntKind.signed]
      rw [w, w, w]
      omega
    rw [e0]
    simp only [cuecardref02_Get.l1]
    rw [if_pos (by omega), if_pos (by omega), if_pos (by omega), hc, e2, e1]
    exact ih (by omega) k (by omega)
noncomputable def refR (p : List Int) (a n : Nat) : Int × Int × Int :=
  if n = 10 then (0, 0, 4) else if n = p.length then (0, 0, 5) else endR p a n (val p 0 (n + 1) % 2 ^ 64)
theorem ref_l0 (p : List Int) (hp : Rng p) (hl : p.length ≤ 281474976710656) (a : Nat) (ha : a ≤ 281474976710656) (n : Nat) (hs : Stop p 0 n) (d : Nat) : ∀ i, i ≤ n → n - i = d → i ≤ 9 → ∀ k, d + d + 60 < k →
    cuecardref02_Get.l0 k (a : Int) p (i : Int) = some (refR p a n) := by
  obtain ⟨hs1, hs2, hs3⟩ := hs
  induction d with
  | zero =>
    intro i h1 h2 h3 k hk
    obtain rfl : i = n := by omega
    obtain ⟨k, rfl⟩ : ∃ m, k = m + 1 + 1 := ⟨k - 2, by omega⟩
    simp only [cuecardref02_Get.l0]
    by_cases he : i = p.length
    · rw [if_neg (by omega)]
      simp only [cuecardref02_Get.j2, Bool.false_eq_true, if_false]
      rw [if_pos (by omega)]
      unfold refR
      rw [if_neg (by omega), if_pos he]
    · have hlt : i < p.length ∧ rd p (i : Int) < 128 := by
        rcases hs3 with h | h | h
        · omega
        · omega
        · rw [Nat.zero_add] at h; exact h
      rw [if_pos (by omega), if_pos (by omega), decide_eq_false (by omega)]
      simp only [cuecardref02_Get.j2, Bool.false_eq_true, if_false]
      rw [if_neg (by omega)]
      unfold refR
      rw [if_neg (by omega), if_neg he]
      have := ref_l1 p hp hl a i ha h3 hlt.1 (i + 1) (by omega) k (by omega)
      rw [Nat.div_eq_of_lt (val_lt p 0 (i + 1)), Nat.zero_mod, show ((i + 1 : Nat) : Int) - 1 = (i : Int) by omega] at this
      exact this
  | succ d ih =>
    intro i h1 h2 h3 k hk
    obtain ⟨k, rfl⟩ : ∃ m, k = m + 1 + 1 := ⟨k - 2, by omega⟩
    have hi := hs2 i (by omega)
    rw [Nat.zero_add] at hi
    simp only [cuecardref02_Get.l0]
    rw [if_pos (by omega), if_pos (by omega), decide_eq_true (by omega)]
    simp only [cuecardref02_Get.j2, if_true]
    rw [wr_i (by omega)]
    by_cases h9 : i = 9
    · rw [if_pos (by omega)]
      unfold refR
      rw [if_pos (by omega)]
    · rw [if_neg (by omega)]
      exact ih (i + 1) (by omega) (by omega) (by omega) k (by omega)
theorem rd_drop (b : List Int) (a j : Nat) : rd (b.drop a) (j : Int) = rd b ((a + j : Nat) : Int) := by
  unfold rd; rw [Int.toNat_natCast, Int.toNat_natCast, List.getD_eq_getElem?_getD, List.getD_eq_getElem?_getD, List.getElem?_drop]
/-- both tell the same -/
theorem ref_is_get (b : List Int) (hb : Rng b) (a : Nat) (ha : a ≤ b.length) (n : Nat) (hs : Stop b a n) : refR (b.drop a) a n = getR b a n := by
  have hv : ∀ m, val (b.drop a) 0 m = val b a m := fun m => val_congr _ _ _ _ _ (fun j _ => by rw [Nat.zero_add, rd_drop])
  unfold refR getR
  by_cases h10 : n = 10
  · rw [if_pos h10, if_pos h10]
  · rw [if_neg h10, if_neg h10]
    have hlen : (b.drop a).length = b.length - a := List.length_drop
    by_cases hl : a + n = b.length
    · rw [if_pos (by omega), if_pos hl]
    · rw [if_neg (by omega), if_neg hl, hv]
      by_cases hc : (rd b ((a + n : Nat) : Int) = 0 ∧ 0 < n) ∨ (1 < rd b ((a + n : Nat) : Int) ∧ n = 9)
      · rw [if_pos hc]
        unfold endR
        rw [if_neg]
        rintro ⟨h1, h2, h3⟩
        rcases hc with ⟨c1, c2⟩ | ⟨c1, c2⟩
        · have hlast := h3 n (by omega)
          have ht := (top_digit h2).2
          rw [rd_drop, c1] at hlast
          unfold byt at hlast
          rw [if_neg (by omega)] at hlast
          rw [Nat.add_sub_cancel] at ht
          have := ht (by omega)
          omega
        · subst c2
          have hw := val_enc h2 (b.drop a) 0 (fun j hj => by rw [Nat.zero_add]; exact h3 j hj)
          rw [hv] at hw
          have hbig : 2 ^ 64 ≤ val b a (9 + 1) := by
            rw [val_succ]
            have h4 := hs.2.2
            have hr := hb (a + 9) (by omega)
            have : 2 ≤ (rd b ((a + 9 : Nat) : Int)).toNat % 128 := by omega
            have := Nat.mul_le_mul_right (128 ^ 9) this
            have e : 2 * 128 ^ 9 = 2 ^ 64 := by decide
            omega
          have : val b a (9 + 1) % 2 ^ 64 < 2 ^ 64 := Nat.mod_lt _ (by decide)
          omega
      · rw [if_neg hc]
        obtain ⟨h1, h2, h3, h4, h5⟩ := get_good b hb a n hs h10 hl hc
        rw [Nat.mod_eq_of_lt h3]
        unfold endR
        rw [if_pos ⟨by omega, h4, fun j hj => by rw [rd_drop]; exact h5 j hj⟩]
theorem refget_in (b : List Int) (hb : Rng b) (hlen : b.length ≤ 281474976710656) (a : Nat) (ha : a ≤ b.length) : ∃ n, Stop b a n ∧ (∀ k, 12 ≤ k → vary_Get.f k b (a : Int) = some (getR b a n)) ∧ cuecardref02_Get.f 200 b (a : Int) = some (getR b a n) := by
  obtain ⟨n, hs, hg⟩ := get_in b hb hlen a ha
  refine ⟨n, hs, hg, ?_⟩
  have hsd : Stop (b.drop a) 0 n := by
    have hlen : (b.drop a).length = b.length - a := List.length_drop
    refine ⟨hs.1, fun j hj => ?_, ?_⟩
    · have := hs.2.1 j hj
      rw [rd_drop, Nat.zero_add]
      exact ⟨by omega, this.2⟩
    · rw [rd_drop, Nat.zero_add]
      have := hs.2.2
      omega
  have hrd : Rng (b.drop a) := fun i hi => by rw [rd_drop]; exact hb (a + i) (by rw [List.length_drop] at hi; omega)
  unfold cuecardref02_Get.f
  rw [if_neg (by omega), decide_eq_false (by omega)]
  simp only [cuecardref02_Get.j0, Bool.false_eq_true, if_false]
  rw [if_pos (by omega), if_pos (by omega), Int.toNat_natCast]
  rw [← ref_is_get b hb a (by omega) n hs]
  have h1 := hs.1
  exact ref_l0 (b.drop a) hrd (by rw [List.length_drop]; omega) a (by omega) n hsd n 0 (by omega) (by omega) (by omega) 199 (by omega)
end Va
/-! ### the program's Get and the document's; an event -/
theorem get_both {b : List Int} (hb : Byt b) (hlen : b.length ≤ 281474976710656) {a : Nat} (ha : a ≤ b.length) :
    ∃ x y e : Int, (∀ k, 12 ≤ k → vary_Get.f k b (a : Int) = some (x, y, e)) ∧ cuecardref02_Get.f 200 b (a : Int) = some (x, y, e) ∧ (e ≠ 0 ∨ e = 0 ∧ ∃ u p : Nat, x = (u : Int) ∧ y = (p : Int) ∧ u < 2 ^ 64 ∧ a ≤ p ∧ p ≤ b.length) := by
  obtain ⟨n, hs, hg, hr⟩ := Va.refget_in b (byt_rng hb) hlen a ha
  refine ⟨(Va.getR b a n).1, (Va.getR b a n).2.1, (Va.getR b a n).2.2, hg, hr, ?_⟩
  rcases get_spec hb hlen ha with ⟨e, he, h⟩ | ⟨u, rest, hu, hd, h⟩
  · have h1 := hg 12 (Nat.le_refl _)
    rw [h 12 (Nat.le_refl _)] at h1
    injection h1 with h1
    rw [← h1]
    exact .inl he
  · have h1 := hg 12 (Nat.le_refl _)
    rw [h 12 (Nat.le_refl _)] at h1
    injection h1 with h1
    rw [← h1]
    have hl := congrArg List.length hd
    simp only [List.length_drop, List.length_append] at hl
    exact .inr ⟨rfl, u, _, rfl, rfl, hu, by omega, by omega⟩
theorem refadd (a x : Int) : cuecardref03_Add.f a x = some (wrap64 (a + x)) := by
  unfold cuecardref03_Add.f
  congr 1
  rw [Va.wrapU64, Va.wrapU64, Va.wrapU64]
  unfold wrap64
  omega
theorem one_cases {b : List Int} (hb : Byt b) (hlen : b.length ≤ 281474976710656) {a : Nat} (ha : a ≤ b.length) (last : Int) {all : Nat} (hall : all ≤ 262144) :
    ∃ x1 y1 e1 : Int, cuecardref02_Get.f 200 b (a : Int) = some (x1, y1, e1) ∧
      ((e1 ≠ 0 ∧ ∀ k, 12 ≤ k → trans_one.f k b (a : Int) last (262144 - (all : Int)) = some (0, 0, [], (a : Int), e1)) ∨
       (e1 = 0 ∧ ∃ u p : Nat, x1 = (u : Int) ∧ y1 = (p : Int) ∧ u < 2 ^ 64 ∧ a ≤ p ∧ p ≤ b.length ∧ ∃ x2 y2 e2 : Int, cuecardref02_Get.f 200 b (p : Int) = some (x2, y2, e2) ∧
         ((e2 ≠ 0 ∧ ∀ k, 12 ≤ k → trans_one.f k b (a : Int) last (262144 - (all : Int)) = some (0, 0, [], (p : Int), e2)) ∨
          (e2 = 0 ∧ ∃ n q : Nat, x2 = (n : Int) ∧ y2 = (q : Int) ∧ n < 2 ^ 64 ∧ p ≤ q ∧ q ≤ b.length ∧
            (((65536 < n ∨ 262144 < all + n) ∧ ∀ k, 12 ≤ k → trans_one.f k b (a : Int) last (262144 - (all : Int)) = some (0, 0, [], (p : Int), 6)) ∨
             (n ≤ 65536 ∧ all + n ≤ 262144 ∧ b.length < q + n ∧ ∀ k, 12 ≤ k → trans_one.f k b (a : Int) last (262144 - (all : Int)) = some (0, 0, [], (b.length : Int), 5)) ∨
             (n ≤ 65536 ∧ all + n ≤ 262144 ∧ q + n ≤ b.length ∧ ∀ k, 12 ≤ k → trans_one.f k b (a : Int) last (262144 - (all : Int)) = some (0, wrap64 (last + ug u), (b.take (q + n)).drop q, ((q + n : Nat) : Int), 0))))))) := by
  obtain ⟨x1, y1, e1, hg1, hr1, h1⟩ := get_both hb hlen ha
  refine ⟨x1, y1, e1, hr1, ?_⟩
  rcases h1 with h1 | ⟨rfl, u, p, rfl, rfl, hu, hap, hp⟩
  · refine .inl ⟨h1, fun k hk => ?_⟩
    unfold trans_one.f
    rw [hg1 k hk]
    simp only [Option.bind_some]
    rw [if_neg h1]
  · refine .inr ⟨rfl, u, p, rfl, rfl, hu, hap, hp, ?_⟩
    obtain ⟨x2, y2, e2, hg2, hr2, h2⟩ := get_both hb hlen hp
    refine ⟨x2, y2, e2, hr2, ?_⟩
    rcases h2 with h2 | ⟨rfl, n, q, rfl, rfl, hn, hpq, hq⟩
    · refine .inl ⟨h2, fun k hk => ?_⟩
      unfold trans_one.f
      rw [hg1 k hk]
      simp only [Option.bind_some, if_true]
      rw [hg2 k hk]
      simp only [Option.bind_some]
      rw [if_neg h2]
    · refine .inr ⟨rfl, n, q, rfl, rfl, hn, hpq, hq, ?_⟩
      obtain ⟨m, hm⟩ : ∃ m, m = mn (262144 - (all : Int)) 65536 := ⟨_, rfl⟩
      have hmn : (m ≤ 65536 ∧ 0 ≤ m ∧ m ≤ 262144 - (all : Int)) ∧ (m = 65536 ∨ m = 262144 - (all : Int)) := by rw [hm]; unfold mn; split <;> omega
      have w4 := Lib.hid (show IntKind.u64.wrap (mn (262144 - (all : Int)) 65536) = m by rw [← hm, Va.wrapU64]; omega)
      have w2 := Lib.hid (show wrap64 ((b.length : Int) - (q : Int)) = (b.length : Int) - (q : Int) from w64 (by omega) (by omega))
      by_cases c1 : 65536 < n ∨ 262144 < all + n
      · refine .inl ⟨c1, fun k hk => ?_⟩
        unfold trans_one.f
        rw [hg1 k hk]
        simp only [Option.bind_some, if_true]
        rw [hg2 k hk]
        simp only [Option.bind_some, if_true]
        rw [w4.out, if_pos (by omega)]
      · have w1 := Lib.hid (show wrap64 ((n : Nat) : Int) = (n : Int) from w64 (by omega) (by omega))
        by_cases c2 : b.length < q + n
        · refine .inr (.inl ⟨by omega, by omega, c2, fun k hk => ?_⟩)
          unfold trans_one.f
          rw [hg1 k hk]
          simp only [Option.bind_some, if_true]
          rw [hg2 k hk]
          simp only [Option.bind_some, if_true]
          rw [w4.out, if_neg (by omega), w1.out, w2.out, if_pos (by omega)]
        · refine .inr (.inr ⟨by omega, by omega, by omega, fun k hk => ?_⟩)
          unfold trans_one.f
          rw [hg1 k hk]
          simp only [Option.bind_some, if_true]
          rw [hg2 k hk]
          simp only [Option.bind_some, if_true]
          rw [w4.out, if_neg (by omega), w1.out, w2.out, if_neg (by omega), show wrap64 ((q : Int) + (n : Int)) = ((q + n : Nat) : Int) from (w64 (by omega) (by omega)).trans (by omega), zag_ug hu]
          simp only [Option.bind_some, clock_Add.f]
          rw [if_pos (by omega), if_pos (by omega), if_pos (by omega), Int.toNat_natCast, Int.toNat_natCast]
          unfold bytes_Clone.f
          rw [if_pos (by rw [List.length_drop, List.length_take]; omega)]
          rfl
end Go.Proofs.Ytefippbcgdfnbaa.QA
