import Derived.Lib.Zigzag
import Derived.Test.YtbdknddgfmoipaaGreatDoorZQ1
set_option linter.unusedVariables false
set_option linter.unusedSimpArgs false
namespace Go.Proofs.YtbdknddgfmoipaaGreatDoor.QA
open Go.RowKit Go.Proofs.YtbdknddgfmoipaaGreatDoorW.PrintWords Go.Proofs.YtbdknddgfmoipaaGreatDoorW.PrintLast Go.Proofs.YtbdknddgfmoipaaGreatDoorW.PrintMore
set_option linter.unusedVariables false
set_option linter.unusedSimpArgs false
namespace Va
/-! ### numbers, without the program -/
/-- digit i to the base 128 -/
def dgt (x i : Nat) : Nat := x / 128 ^ i % 128
/-- m bytes for x -/
def Cnt (x m : Nat) : Prop := 1 ≤ m ∧ m ≤ 10 ∧ x < 128 ^ m ∧ (m = 1 ∨ 128 ^ (m - 1) ≤ x)
/-- byte i of the m bytes of x -/
def byt (x m i : Nat) : Int := if i + 1 < m then ((128 + dgt x i : Nat) : Int) else ((dgt x i : Nat) : Int)
def enc (x m : Nat) : List Int := (List.range m).map (byt x m)
theorem enc_length (x m : Nat) : (enc x m).length = m := by simp [enc]
theorem enc_rd (x m i : Nat) (h : i < m) : rd (enc x m) (i : Int) = byt x m i := by
  unfold rd enc
  rw [Int.toNat_natCast, List.getD_eq_getElem?_getD, List.getElem?_map, List.getElem?_range h]
  rfl
theorem dgt_lt (x i : Nat) : dgt x i < 128 := Nat.mod_lt _ (by decide)
theorem pow128 (i : Nat) : (128 : Nat) ^ i = 2 ^ (7 * i) := by
  rw [show (128 : Nat) = 2 ^ 7 from rfl, ← Nat.pow_mul]
theorem pow128_pos (i : Nat) : 0 < (128 : Nat) ^ i := Nat.pow_pos (by decide)
theorem Cnt.unique {x m n : Nat} (h : Cnt x m) (k : Cnt x n) : m = n := by
  obtain ⟨h1, h2, h3, h4⟩ := h
  obtain ⟨k1, k2, k3, k4⟩ := k
  rcases Nat.lt_trichotomy m n with hlt | rfl | hlt
  · rcases k4 with rfl | k4
    · omega
    · exact absurd (Nat.lt_of_lt_of_le h3 (Nat.pow_le_pow_right (by decide) (show m ≤ n - 1 by omega))) (by omega)
  · rfl
  · rcases h4 with rfl | h4
    · omega
    · exact absurd (Nat.lt_of_lt_of_le k3 (Nat.pow_le_pow_right (by decide) (show n ≤ m - 1 by omega))) (by omega)
theorem wr_i {i : Nat} (h : i < 4611686018427387904) : wrap64 ((i : Int) + 1) = ((i + 1 : Nat) : Int) := by unfold wrap64; omega
theorem wr_7 {i : Nat} (h : i ≤ 10) : wrap64 (7 * (i : Int)) = ((7 * i : Nat) : Int) := by unfold wrap64; omega
theorem or128 (a : Nat) (h : a < 256) : Go.bits .or .u8 (a : Int) 128 = ((128 + a % 128 : Nat) : Int) := by
  have key : ∀ a : Fin 256, Go.bits .or .u8 ((a.val : Nat) : Int) 128 = ((128 + a.val % 128 : Nat) : Int) := by decide +kernel
  exact key ⟨a, h⟩
theorem and127 (a : Nat) (h : a < 256) : Go.bits .and .u8 (a : Int) 127 = ((a % 128 : Nat) : Int) := by
  have key : ∀ a : Fin 256, Go.bits .and .u8 ((a.val : Nat) : Int) 127 = ((a.val % 128 : Nat) : Int) := by decide +kernel
  exact key ⟨a, h⟩
theorem shr7 (x i : Nat) (h : i ≤ 9) : shr .u64 (x : Int) ((7 * i : Nat) : Int) = ((x / 128 ^ i : Nat) : Int) := by
  unfold shr
  rw [Int.toNat_natCast, Nat.min_eq_left (show 7 * i ≤ IntKind.u64.bits by show 7 * i ≤ 64; omega), pow128]
  push_cast
  rfl
theorem wrapsU64 (n : Int) (h₀ : 0 ≤ n) (h₁ : n < 2 ^ 64) : IntKind.u64.wrap n = n := by
  have : IntKind.u64.wrap n = n % 2 ^ 64 := by simp [IntKind.wrap, IntKind.bits, IntKind.signed]
  rw [this]; omega
theorem put_byte (x i : Nat) (h : i ≤ 9) : Go.bits .or .u8 ((shr .u64 (x : Int) (wrap64 (7 * (i : Int)))) % 256) 128 = ((128 + dgt x i : Nat) : Int) := by
  rw [wr_7 (by omega), shr7 x i h, show (((x / 128 ^ i : Nat) : Int) % 256) = ((x / 128 ^ i % 256 : Nat) : Int) by omega, or128 _ (Nat.mod_lt _ (by decide))]
  unfold dgt
  congr 2
  omega
/-- a digit joins what is below it -/
theorem or_digit (acc c i : Nat) (hacc : acc < 128 ^ i) (hi : i ≤ 9) (hc : c < 256) (hf : c % 128 * 128 ^ i < 2 ^ 64) :
    Go.bits .or .u64 (acc : Int) (shl .u64 (IntKind.u64.wrap (Go.bits .and .u8 (c : Int) 127)) (wrap64 (7 * (i : Int)))) = ((acc + c % 128 * 128 ^ i : Nat) : Int) := by
  have h64 : (128 : Nat) ^ i ≤ 2 ^ 63 := by rw [pow128]; exact Nat.pow_le_pow_right (by decide) (by omega)
  rw [and127 c hc, wrapsU64 _ (by omega) (by omega), wr_7 (by omega)]
  unfold shl
  rw [Int.toNat_natCast, Nat.min_eq_left (show 7 * i ≤ IntKind.u64.bits by show 7 * i ≤ 64; omega)]
  have e : ((c % 128 : Nat) : Int) * 2 ^ (7 * i) = ((c % 128 * 128 ^ i : Nat) : Int) := by rw [pow128]; push_cast; rfl
  rw [e, wrapsU64 _ (by omega) (by exact_mod_cast hf)]
  rw [(bits_nat .u64 64 (by decide) wrapsU64 acc (c % 128 * 128 ^ i) (by omega) hf).2]
  congr 1
  rw [pow128] at hacc ⊢
  rw [Nat.mul_comm (c % 128), Nat.or_comm, ← Nat.two_pow_add_eq_or_of_lt hacc, Nat.add_comm]
/-- the value of n bytes that stand at a place -/
def val (b : List Int) (a : Nat) : Nat → Nat
  | 0 => 0
  | n + 1 => val b a n + (rd b ((a + n : Nat) : Int)).toNat % 128 * 128 ^ n
theorem val_succ (b : List Int) (a n : Nat) : val b a (n + 1) = val b a n + (rd b ((a + n : Nat) : Int)).toNat % 128 * 128 ^ n := rfl
theorem val_lt (b : List Int) (a n : Nat) : val b a n < 128 ^ n := by
  induction n with
  | zero => simp [val]
  | succ n ih =>
    unfold val
    have h1 : (rd b ((a + n : Nat) : Int)).toNat % 128 ≤ 127 := by omega
    have h2 : (rd b ((a + n : Nat) : Int)).toNat % 128 * 128 ^ n ≤ 127 * 128 ^ n := Nat.mul_le_mul_right _ h1
    rw [Nat.pow_succ]
    omega
theorem val_congr (b c : List Int) (a d n : Nat) (h : ∀ j, j < n → rd b ((a + j : Nat) : Int) = rd c ((d + j : Nat) : Int)) : val b a n = val c d n := by
  induction n with
  | zero => rfl
  | succ n ih => unfold val; rw [ih (fun j hj => h j (by omega)), h n (by omega)]
theorem mod_pow_step (x n : Nat) : x % 128 ^ n + x / 128 ^ n % 128 * 128 ^ n = x % 128 ^ (n + 1) := by
  rw [Nat.pow_succ, Nat.mod_mul, Nat.mul_comm (128 ^ n)]
theorem val_digits (b : List Int) (a x : Nat) : ∀ n, (∀ j, j < n → (rd b ((a + j : Nat) : Int)).toNat % 128 = dgt x j) → val b a n = x % 128 ^ n := by
  intro n
  induction n with
  | zero => intro _; simp [val, Nat.mod_one]
  | succ n ih =>
    intro h
    unfold val
    rw [ih (fun j hj => h j (by omega)), h n (by omega)]
    exact mod_pow_step x n
theorem digits_val (b : List Int) (a : Nat) : ∀ n j, j < n → dgt (val b a n) j = (rd b ((a + j : Nat) : Int)).toNat % 128 := by
  intro n
  induction n with
  | zero => intro j hj; omega
  | succ n ih =>
    intro j hj
    unfold val dgt
    rcases Nat.lt_or_ge j n with h | h
    · rw [← ih j h]
      unfold dgt
      have : (128 : Nat) ^ n = 128 ^ j * (128 * 128 ^ (n - j - 1)) := by
        rw [← Nat.pow_succ', ← Nat.pow_add]; congr 1; omega
      rw [this, ← Nat.mul_assoc, Nat.mul_comm _ (128 ^ j), Nat.mul_assoc, Nat.mul_comm (128 ^ j), Nat.add_mul_div_right _ _ (pow128_pos j)]
      rw [← Nat.mul_assoc, Nat.mul_comm _ 128, Nat.mul_assoc, Nat.add_mul_mod_self_left]
    · obtain rfl : j = n := by omega
      rw [Nat.add_mul_div_right _ _ (pow128_pos j), Nat.div_eq_of_lt (val_lt b a j)]
      omega
theorem byt_mod (x m i : Nat) : (byt x m i).toNat % 128 = dgt x i := by
  have := dgt_lt x i
  unfold byt
  split <;> (rw [Int.toNat_natCast]; omega)
theorem byt_range (x m i : Nat) : 0 ≤ byt x m i ∧ byt x m i < 256 := by
  have := dgt_lt x i
  unfold byt
  split <;> omega
/-- the last digit of a number is 0 just if it is 0 -/
theorem top_digit {x m : Nat} (h : Cnt x m) : dgt x (m - 1) = x / 128 ^ (m - 1) ∧ (dgt x (m - 1) = 0 → m = 1) := by
  obtain ⟨h1, h2, h3, h4⟩ := h
  have e : 128 ^ m = 128 ^ (m - 1) * 128 := by rw [← Nat.pow_succ]; congr 1; omega
  have hd : x / 128 ^ (m - 1) < 128 := by rw [Nat.div_lt_iff_lt_mul (pow128_pos _)]; rw [e] at h3; rw [Nat.mul_comm]; exact h3
  have e2 : dgt x (m - 1) = x / 128 ^ (m - 1) := Nat.mod_eq_of_lt hd
  refine ⟨e2, fun h0 => ?_⟩
  rcases h4 with h4 | h4
  · exact h4
  · have : 1 ≤ x / 128 ^ (m - 1) := (Nat.le_div_iff_mul_le (pow128_pos _)).2 (by omega)
    omega
theorem Cnt.exists (x : Nat) (h : x < 2 ^ 64) : ∃ m, Cnt x m := by
  have key : ∀ m, x < 128 ^ m → m ≤ 10 → ∃ n, Cnt x n := by
    intro m
    induction m with
    | zero => intro h _; exact ⟨1, by omega, by omega, by simp at h ⊢; omega, .inl rfl⟩
    | succ m ih =>
      intro h hm
      rcases Nat.lt_or_ge x (128 ^ m) with hx | hx
      · exact ih hx (by omega)
      · exact ⟨m + 1, by omega, hm, h, .inr (by simpa using hx)⟩
  exact key 10 (Nat.lt_of_lt_of_le h (by decide)) (by omega)
/-- with ten bytes the last digit is 1 -/
theorem top_ten {x m : Nat} (h : Cnt x m) (hx : x < 2 ^ 64) (h10 : m = 10) : dgt x 9 ≤ 1 := by
  subst h10
  have e := (top_digit h).1
  have : x / 128 ^ 9 < 2 := by rw [Nat.div_lt_iff_lt_mul (pow128_pos _)]; exact Nat.lt_of_lt_of_le hx (by decide)
  simp at e
  omega
/-- the bytes that tell a number are just its own -/
theorem own_bytes (b : List Int) (a n : Nat) (hn : n ≤ 9) (hb : ∀ j, j < n → 128 ≤ rd b ((a + j : Nat) : Int) ∧ rd b ((a + j : Nat) : Int) < 256) (h0 : 0 ≤ rd b ((a + n : Nat) : Int)) (h1 : rd b ((a + n : Nat) : Int) < 128)
    (hz : rd b ((a + n : Nat) : Int) = 0 → n = 0) : Cnt (val b a (n + 1)) (n + 1) ∧ ∀ j, j < n + 1 → rd b ((a + j : Nat) : Int) = byt (val b a (n + 1)) (n + 1) j := by
  refine ⟨⟨by omega, by omega, val_lt _ _ _, ?_⟩, fun j hj => ?_⟩
  · rcases Nat.eq_zero_or_pos n with h | h
    · exact .inl (by omega)
    · refine .inr ?_
      simp only [Nat.add_sub_cancel]
      unfold val
      have : 1 ≤ (rd b ((a + n : Nat) : Int)).toNat % 128 := by
        have : rd b ((a + n : Nat) : Int) ≠ 0 := fun e => by have := hz e; omega
        omega
      have := Nat.mul_le_mul_right (128 ^ n) this
      omega
  · unfold byt
    rw [digits_val b a (n + 1) j hj]
    rcases Nat.lt_or_ge j n with h | h
    · rw [if_pos (by omega)]
      have := hb j h
      omega
    · obtain rfl : j = n := by omega
      rw [if_neg (by omega)]
      omega
theorem val_enc {x m : Nat} (h : Cnt x m) (b : List Int) (a : Nat) (hb : ∀ j, j < m → rd b ((a + j : Nat) : Int) = byt x m j) : val b a m = x := by
  rw [val_digits b a x m (fun j hj => by rw [hb j hj, byt_mod])]
  exact Nat.mod_eq_of_lt h.2.2.1
theorem ten_lt : (128 : Nat) ^ 10 = 2 ^ 70 := by decide
theorem list_ext_rd {b c : List Int} (hl : b.length = c.length) (h : ∀ j, j < b.length → rd b (j : Int) = rd c (j : Int)) : b = c := by
  refine List.ext_getElem hl fun j h1 h2 => ?_
  have := h j h1
  unfold rd at this
  simpa [List.getD_eq_getElem?_getD, List.getElem?_eq_getElem h1, List.getElem?_eq_getElem h2] using this
def len8 : ByteArray := ⟨#[0, 1, 2, 2, 3, 3, 3, 3, 4, 4, 4, 4, 4, 4, 4, 4, 5, 5, 5, 5, 5, 5, 5, 5, 5, 5, 5, 5, 5, 5, 5, 5, 6, 6, 6, 6, 6, 6, 6, 6, 6, 6, 6, 6, 6, 6, 6, 6, 6, 6, 6, 6, 6, 6, 6, 6, 6, 6, 6, 6, 6, 6, 6, 6, 7, 7, 7, 7, 7, 7, 7, 7, 7, 7, 7, 7, 7, 7, 7, 7, 7, 7, 7, 7, 7, 7, 7, 7, 7, 7, 7, 7, 7, 7, 7, 7, 7, 7, 7, 7, 7, 7, 7, 7, 7, 7, 7, 7, 7, 7, 7, 7, 7, 7, 7, 7, 7, 7, 7, 7, 7, 7, 7, 7, 7, 7, 7, 7, 8, 8, 8, 8, 8, 8, 8, 8, 8, 8, 8, 8, 8, 8, 8, 8, 8, 8, 8, 8, 8, 8, 8, 8, 8, 8, 8, 8, 8, 8, 8, 8, 8, 8, 8, 8, 8, 8, 8, 8, 8, 8, 8, 8, 8, 8, 8, 8, 8, 8, 8, 8, 8, 8, 8, 8, 8, 8, 8, 8, 8, 8, 8, 8, 8, 8, 8, 8, 8, 8, 8, 8, 8, 8, 8, 8, 8, 8, 8, 8, 8, 8, 8, 8, 8, 8, 8, 8, 8, 8, 8, 8, 8, 8, 8, 8, 8, 8, 8, 8, 8, 8, 8, 8, 8, 8, 8, 8, 8, 8, 8, 8, 8, 8, 8, 8, 8, 8, 8, 8, 8, 8, 8, 8, 8, 8, 8, 8]⟩
/-! ### bits.Len64, vary.Put -/
theorem len8_spec (v : Nat) (h : v < 256) : ∃ l : Nat, bt len8 (v : Int) = (l : Int) ∧ l ≤ 8 ∧ v < 2 ^ l ∧ (l = 0 ∨ 2 ^ (l - 1) ≤ v) := by
  have key : ∀ v : Fin 256, ∃ l : Fin 9, bt len8 ((v.val : Nat) : Int) = ((l.val : Nat) : Int) ∧ v.val < 2 ^ l.val ∧ (l.val = 0 ∨ 2 ^ (l.val - 1) ≤ v.val) := by decide +kernel
  obtain ⟨l, h1, h2, h3⟩ := key ⟨v, h⟩
  exact ⟨l.val, h1, by omega, h2, h3⟩
theorem shifted {y s l : Nat} (h : y / 2 ^ s < 2 ^ l) (h' : l = 0 ∨ 2 ^ (l - 1) ≤ y / 2 ^ s) (h0 : 0 < y / 2 ^ s) : y < 2 ^ (s + l) ∧ (s + l = 0 ∨ 2 ^ (s + l - 1) ≤ y) := by
  have hl : 0 < l := by
    rcases Nat.eq_zero_or_pos l with rfl | hl
    · simp at h; simp at h0; omega
    · exact hl
  constructor
  · rw [Nat.div_lt_iff_lt_mul (Nat.two_pow_pos s)] at h
    rw [Nat.pow_add, Nat.mul_comm]; exact h
  · refine .inr ?_
    rcases h' with h' | h'
    · omega
    · rw [Nat.le_div_iff_mul_le (Nat.two_pow_pos s), ← Nat.pow_add] at h'
      rw [show s + l - 1 = l - 1 + s by omega]; exact h'
theorem wr_a (n l : Nat) (hn : n ≤ 32) (hl : l ≤ 8) : wrap64 ((wrap64 ((wrap64 ((n : Int) + 16)) + 8)) + wrap64 (l : Int)) = ((n + (24 + l) : Nat) : Int) := by unfold wrap64; omega
theorem wr_b (n l : Nat) (hn : n ≤ 32) (hl : l ≤ 8) : wrap64 ((wrap64 ((n : Int) + 16)) + wrap64 (l : Int)) = ((n + (16 + l) : Nat) : Int) := by unfold wrap64; omega
theorem wr_c (n l : Nat) (hn : n ≤ 32) (hl : l ≤ 8) : wrap64 ((wrap64 ((n : Int) + 8)) + wrap64 (l : Int)) = ((n + (8 + l) : Nat) : Int) := by unfold wrap64; omega
theorem wr_d (n l : Nat) (hn : n ≤ 32) (hl : l ≤ 8) : wrap64 ((n : Int) + wrap64 (l : Int)) = ((n + l : Nat) : Int) := by unfold wrap64; omega
set_option maxRecDepth 100000 in
theorem len_j0 (y n : Nat) (hy : y < 4294967296) (hn : n ≤ 32) : ∃ l : Nat, l ≤ 32 ∧ y < 2 ^ l ∧ (l = 0 ∨ 2 ^ (l - 1) ≤ y) ∧ ∀ k, bits_Len64.j0 (k + 1) (y : Int) (n : Int) = some ((n + l : Nat) : Int) := by
  by_cases h1 : 65536 ≤ y
  · by_cases h2 : 16777216 ≤ y
    · obtain ⟨l, e, h3, h4, h5⟩ := len8_spec (y / 2 ^ 24) (by omega)
      have hs := shifted h4 h5 (by omega)
      refine ⟨24 + l, by omega, hs.1, hs.2, fun k => ?_⟩
      rw [bits_Len64.j0]
      rw [if_pos (by omega), if_pos (by omega), if_pos (by omega), if_pos (by omega)]
      rw [← len8.eq_1, show ((((y : Int) / 65536) / 256) % 256) = ((y / 2 ^ 24 : Nat) : Int) by omega, e]
      rw [wr_a n l hn h3]
    · obtain ⟨l, e, h3, h4, h5⟩ := len8_spec (y / 2 ^ 16) (by omega)
      have hs := shifted h4 h5 (by omega)
      refine ⟨16 + l, by omega, hs.1, hs.2, fun k => ?_⟩
      rw [bits_Len64.j0]
      rw [if_pos (by omega), if_neg (by omega), if_pos (by omega), if_pos (by omega)]
      rw [← len8.eq_1, show (((y : Int) / 65536) % 256) = ((y / 2 ^ 16 : Nat) : Int) by omega, e]
      rw [wr_b n l hn h3]
  · by_cases h2 : 256 ≤ y
    · obtain ⟨l, e, h3, h4, h5⟩ := len8_spec (y / 2 ^ 8) (by omega)
      have hs := shifted h4 h5 (by omega)
      refine ⟨8 + l, by omega, hs.1, hs.2, fun k => ?_⟩
      rw [bits_Len64.j0]
      rw [if_neg (by omega), if_pos (by omega), if_pos (by omega), if_pos (by omega)]
      rw [← len8.eq_1, show (((y : Int) / 256) % 256) = ((y / 2 ^ 8 : Nat) : Int) by omega, e]
      rw [wr_c n l hn h3]
    · obtain ⟨l, e, h3, h4, h5⟩ := len8_spec y (by omega)
      refine ⟨l, by omega, h4, h5, fun k => ?_⟩
      rw [bits_Len64.j0]
      rw [if_neg (by omega), if_neg (by omega), if_pos (by omega), if_pos (by omega)]
      rw [← len8.eq_1, show ((y : Int) % 256) = ((y : Nat) : Int) by omega, e]
      rw [wr_d n l hn h3]
theorem len_f (x : Nat) (hx : x < 2 ^ 64) : ∃ l : Nat, l ≤ 64 ∧ x < 2 ^ l ∧ (l = 0 ∨ 2 ^ (l - 1) ≤ x) ∧ ∀ k, bits_Len64.f (k + 1) (x : Int) = some ((l : Nat) : Int) := by
  unfold bits_Len64.f
  by_cases h : 4294967296 ≤ x
  · obtain ⟨l, h1, h2, h3, h4⟩ := len_j0 (x / 2 ^ 32) 32 (by omega) (by omega)
    have hs := shifted h2 h3 (by omega)
    refine ⟨32 + l, by omega, hs.1, hs.2, fun k => ?_⟩
    rw [if_pos (by omega), show ((x : Int) / 4294967296) = ((x / 2 ^ 32 : Nat) : Int) by omega]
    exact h4 k
  · obtain ⟨l, h1, h2, h3, h4⟩ := len_j0 x 0 (by omega) (by omega)
    refine ⟨l, by omega, h2, h3, fun k => ?_⟩
    rw [if_neg (by omega)]
    have := h4 k
    simpa using this
/-- how many bytes -/
theorem cnt_of_len {x l : Nat} (hl : l ≤ 64) (h1 : x < 2 ^ l) (h2 : l = 0 ∨ 2 ^ (l - 1) ≤ x) : Cnt x (max 1 ((l + 6) / 7)) := by
  refine ⟨by omega, by omega, ?_, ?_⟩
  · rw [pow128]
    exact Nat.lt_of_lt_of_le h1 (Nat.pow_le_pow_right (by decide) (by omega))
  · by_cases h : l ≤ 7
    · exact .inl (by omega)
    · refine .inr ?_
      rcases h2 with h2 | h2
      · omega
      · rw [pow128]
        exact Nat.le_trans (Nat.pow_le_pow_right (by decide) (by omega)) h2
/-- the bytes behind i rounds -/
def half (x m i : Nat) : List Int := (List.range m).map fun j => if j < i then ((128 + dgt x j : Nat) : Int) else 0
theorem half_length (x m i : Nat) : (half x m i).length = m := by simp [half]
theorem half_set (x m i : Nat) : (half x m i).set i ((128 + dgt x i : Nat) : Int) = half x m (i + 1) := by
  apply List.ext_getElem
  · simp [half]
  · intro j h1 h2
    simp only [half, List.getElem_set, List.getElem_map, List.getElem_range]
    by_cases e : i = j
    · subst e; rw [if_pos rfl, if_pos (by omega)]
    · rw [if_neg e]
      by_cases hj : j < i
      · rw [if_pos hj, if_pos (by omega)]
      · rw [if_neg hj, if_neg (by omega)]
theorem half_end (x m : Nat) (hm : 1 ≤ m) : (half x m m).set (m - 1) ((dgt x (m - 1) : Nat) : Int) = enc x m := by
  apply List.ext_getElem
  · simp [half, enc]
  · intro j h1 h2
    have hj : j < m := by simpa [enc] using h2
    simp only [half, enc, byt, List.getElem_set, List.getElem_map, List.getElem_range]
    by_cases e : m - 1 = j
    · subst e; rw [if_pos rfl, if_neg (by omega)]
    · rw [if_neg e, if_pos (by omega), if_pos (by omega)]
theorem put_l0 (x m : Nat) (hm : 1 ≤ m) (hm' : m ≤ 10) (d : Nat) : ∀ (k i : Nat), i ≤ m → m - i = d → d < k →
    vary_Put.l0 k (x : Int) (m : Int) (half x m i) (m : Int) (i : Int) = some (enc x m) := by
  induction d with
  | zero =>
    intro k i h1 h2 hk
    obtain ⟨k, rfl⟩ : ∃ m, k = m + 1 := ⟨k - 1, by omega⟩
    obtain rfl : i = m := by omega
    have e1 : wrap64 ((i : Int) - 1) = ((i - 1 : Nat) : Int) := by unfold wrap64; omega
    have hr : rd (half x i i) ((i - 1 : Nat) : Int) = ((128 + dgt x (i - 1) : Nat) : Int) := by
      unfold rd half
      rw [Int.toNat_natCast, List.getD_eq_getElem?_getD, List.getElem?_map, List.getElem?_range (by omega)]
      simp only [Option.map_some, Option.getD_some]
      rw [if_pos (by omega)]
    have hd := dgt_lt x (i - 1)
    simp only [vary_Put.l0]
    rw [if_neg (by omega), e1, if_pos (by omega), if_pos (by rw [half_length]; omega), hr, and127 _ (by omega), Int.toNat_natCast]
    rw [show (128 + dgt x (i - 1)) % 128 = dgt x (i - 1) by omega]
    rw [half_end x i hm]
  | succ d ih =>
    intro k i h1 h2 hk
    obtain ⟨k, rfl⟩ : ∃ m, k = m + 1 := ⟨k - 1, by omega⟩
    simp only [vary_Put.l0]
    rw [if_pos (by omega), if_pos (by rw [wr_7 (by omega)]; omega), if_pos (by omega), if_pos (by rw [half_length]; omega), put_byte x i (by omega), Int.toNat_natCast, half_set, wr_i (by omega)]
    exact ih k (i + 1) (by omega) (by omega) (by omega)
theorem put_f (x : Nat) (hx : x < 2 ^ 64) : ∃ m, Cnt x m ∧ ∀ k, 12 ≤ k → vary_Put.f k (x : Int) = some (enc x m) := by
  obtain ⟨l, h1, h2, h3, h4⟩ := len_f x hx
  have hc := cnt_of_len h1 h2 h3
  refine ⟨_, hc, fun k hk => ?_⟩
  obtain ⟨m, hm⟩ : ∃ m, max 1 ((l + 6) / 7) = m := ⟨_, rfl⟩
  rw [hm] at hc ⊢
  obtain ⟨c1, c2, _, _⟩ := hc
  unfold vary_Put.f
  obtain ⟨k, rfl⟩ : ∃ m, k = m + 1 := ⟨k - 1, by omega⟩
  rw [h4 k, Option.bind_some]
  have e : mx 1 (wrap64 (Int.tdiv (wrap64 (((l : Nat) : Int) + 6)) 7)) = (m : Int) := by
    have e1 : wrap64 (((l : Nat) : Int) + 6) = ((l + 6 : Nat) : Int) := by unfold wrap64; omega
    rw [e1]
    have e2 : Int.tdiv ((l + 6 : Nat) : Int) 7 = (((l + 6) / 7 : Nat) : Int) := by rw [Int.tdiv_eq_ediv_of_nonneg (by omega)]; omega
    rw [e2]
    unfold mx wrap64
    split <;> omega
  rw [e, if_pos (by omega), if_pos (by omega), Int.toNat_natCast]
  have e0 : (List.replicate m (0 : Int)) = half x m 0 := by
    apply List.ext_getElem
    · simp [half]
    · intro j _ _; simp [half]
  rw [e0]
  exact put_l0 x m c1 c2 m (k + 1) 0 (by omega) (by omega) (by omega)
/-! ### vary.Get -/
def Rng (b : List Int) : Prop := ∀ i : Nat, i < b.length → 0 ≤ rd b (i : Int) ∧ rd b (i : Int) < 256
theorem rng_of_wf {b : List Int} (h : ∀ x ∈ b, (Lit.int .u8 x).wf = true) : Rng b := by
  intro i hi
  have : rd b (i : Int) = b[i] := by unfold rd; simp [List.getD_eq_getElem?_getD, List.getElem?_eq_getElem hi]
  rw [this]
  have := h _ (List.getElem_mem hi)
  simp only [Lit.wf, IntKind.min, IntKind.max, IntKind.signed, IntKind.bits, Bool.and_eq_true] at this
  simp at this
  omega
def Stop (b : List Int) (a n : Nat) : Prop :=
  n ≤ 10 ∧ (∀ j, j < n → a + j < b.length ∧ 128 ≤ rd b ((a + j : Nat) : Int)) ∧ (n = 10 ∨ a + n = b.length ∨ (a + n < b.length ∧ rd b ((a + n : Nat) : Int) < 128))
theorem Stop.unique {b : List Int} {a m n : Nat} (h : Stop b a m) (k : Stop b a n) : m = n := by
  obtain ⟨h1, h2, h3⟩ := h
  obtain ⟨k1, k2, k3⟩ := k
  rcases Nat.lt_trichotomy m n with hlt | rfl | hlt
  · have := k2 m hlt
    omega
  · rfl
  · have := h2 n hlt
    omega
def getR (b : List Int) (a n : Nat) : Int × Int × Int :=
  if n = 10 then (0, 0, 4) else if a + n = b.length then (0, 0, 5) else
    if (rd b ((a + n : Nat) : Int) = 0 ∧ 0 < n) ∨ (1 < rd b ((a + n : Nat) : Int) ∧ n = 9) then (0, 0, 4)
    else (((val b a (n + 1) : Nat) : Int), ((a + n + 1 : Nat) : Int), 0)
theorem get_l0 (b : List Int) (hb : Rng b) (hlen : b.length ≤ 281474976710656) (a : Nat) (d : Nat) : ∀ (i : Nat) (acc : Int), i ≤ 10 → 10 - i = d → a + i ≤ b.length →
    (∀ j, j < i → a + j < b.length ∧ 128 ≤ rd b ((a + j : Nat) : Int)) → (i ≤ 9 → acc = ((val b a i : Nat) : Int)) →
    ∃ n, Stop b a n ∧ ∀ k, d < k → vary_Get.l0 k b (a : Int) acc (i : Int) = some (getR b a n) := by
  induction d with
  | zero =>
    intro i acc h1 h2 h3 h4 h5
    obtain rfl : i = 10 := by omega
    refine ⟨10, ⟨by omega, h4, .inl rfl⟩, fun k hk => ?_⟩
    obtain ⟨k, rfl⟩ : ∃ m, k = m + 1 := ⟨k - 1, by omega⟩
    simp only [vary_Get.l0]
    rw [if_neg (by omega)]
    rfl
  | succ d ih =>
    intro i acc h1 h2 h3 h4 h5
    have hi : i ≤ 9 := by omega
    have hacc := h5 hi
    subst hacc
    have ew : wrap64 ((a : Int) + (i : Int)) = ((a + i : Nat) : Int) := by unfold wrap64; omega
    rcases Nat.eq_or_lt_of_le h3 with he | hlt
    · refine ⟨i, ⟨by omega, h4, .inr (.inl he)⟩, fun k hk => ?_⟩
      obtain ⟨k, rfl⟩ : ∃ m, k = m + 1 := ⟨k - 1, by omega⟩
      simp only [vary_Get.l0, ew]
      rw [if_pos (by omega), if_pos (by omega)]
      unfold getR
      rw [if_neg (by omega), if_pos he]
    · obtain ⟨c, hc⟩ := Int.eq_ofNat_of_zero_le (hb (a + i) hlt).1
      have hc' : c < 256 := by have := (hb (a + i) hlt).2; omega
      by_cases hbig : 128 ≤ c
      · have hacc : i + 1 ≤ 9 → Go.bits .or .u64 ((val b a i : Nat) : Int) (shl .u64 (IntKind.u64.wrap (Go.bits .and .u8 (rd b ((a + i : Nat) : Int)) 127)) (wrap64 (7 * (i : Int)))) = ((val b a (i + 1) : Nat) : Int) := fun h9 => by
          rw [hc, or_digit _ c i (val_lt b a i) hi hc' (by
            have e : (128 : Nat) ^ i ≤ 128 ^ 8 := Nat.pow_le_pow_right (by decide) (by omega)
            have := Nat.mul_le_mul (show c % 128 ≤ 127 by omega) e
            exact Nat.lt_of_le_of_lt this (by decide))]
          rw [val_succ, hc, Int.toNat_natCast]
        obtain ⟨n, hn, hk⟩ := ih (i + 1) _ (by omega) (by omega) (by omega) (fun j hj => by
          rcases Nat.lt_or_ge j i with h | h
          · exact h4 j h
          · obtain rfl : j = i := by omega
            exact ⟨hlt, by omega⟩) hacc
        refine ⟨n, hn, fun k hk' => ?_⟩
        obtain ⟨k, rfl⟩ : ∃ m, k = m + 1 := ⟨k - 1, by omega⟩
        simp only [vary_Get.l0, ew]
        rw [if_pos (by omega), if_neg (by omega), if_pos (by omega), if_pos (by omega), if_pos (by rw [wr_7 (by omega)]; omega), if_pos (by omega), wr_i (by omega)]
        exact hk k (by omega)
      · refine ⟨i, ⟨by omega, h4, .inr (.inr ⟨hlt, by omega⟩)⟩, fun k hk => ?_⟩
        obtain ⟨k, rfl⟩ : ∃ m, k = m + 1 := ⟨k - 1, by omega⟩
        have ew1 : wrap64 (((a + i : Nat) : Int) + 1) = ((a + i + 1 : Nat) : Int) := by unfold wrap64; omega
        simp only [vary_Get.l0, ew]
        rw [if_pos (by omega), if_neg (by omega), if_pos (by omega), if_pos (by omega), if_pos (by rw [wr_7 (by omega)]; omega), if_neg (by omega)]
        have hgood : ¬ (1 < rd b ((a + i : Nat) : Int) ∧ i = 9) → Go.bits .or .u64 ((val b a i : Nat) : Int) (shl .u64 (IntKind.u64.wrap (Go.bits .and .u8 (rd b ((a + i : Nat) : Int)) 127)) (wrap64 (7 * (i : Int)))) = ((val b a (i + 1) : Nat) : Int) := fun hg => by
          rw [hc, or_digit _ c i (val_lt b a i) hi hc' (by
            by_cases h9 : i = 9
            · subst h9
              have : c % 128 ≤ 1 := by omega
              have := Nat.mul_le_mul_right (128 ^ 9) this
              exact Nat.lt_of_le_of_lt this (by decide)
            · have e : (128 : Nat) ^ i ≤ 128 ^ 8 := Nat.pow_le_pow_right (by decide) (by omega)
              have := Nat.mul_le_mul (show c % 128 ≤ 127 by omega) e
              exact Nat.lt_of_le_of_lt this (by decide))]
          rw [val_succ, hc, Int.toNat_natCast]
        unfold getR
        rw [if_neg (show ¬ i = 10 by omega), if_neg (show ¬ a + i = b.length by omega)]
        by_cases c0 : rd b ((a + i : Nat) : Int) = 0
        · rw [if_pos c0]
          by_cases hi0 : 0 < i
          · rw [if_pos (by omega), if_pos (.inl ⟨c0, hi0⟩)]
          · rw [if_neg (by omega), if_neg (by omega), if_neg (by omega), hgood (by omega), ew1]
        · rw [if_neg c0]
          by_cases c1 : 1 < rd b ((a + i : Nat) : Int)
          · rw [if_pos (by omega)]
            by_cases h9 : i = 9
            · rw [if_pos (by omega), if_pos (.inr ⟨c1, h9⟩)]
            · rw [if_neg (by omega), if_neg (by omega), hgood (by omega), ew1]
          · rw [if_neg (by omega), if_neg (by omega), hgood (by omega), ew1]
theorem get_in (b : List Int) (hb : Rng b) (hlen : b.length ≤ 281474976710656) (a : Nat) (ha : a ≤ b.length) : ∃ n, Stop b a n ∧ ∀ k, 12 ≤ k → vary_Get.f k b (a : Int) = some (getR b a n) := by
  obtain ⟨n, hn, h⟩ := get_l0 b hb hlen a 10 0 0 (by omega) rfl (by omega) (fun j hj => by omega) (fun _ => by simp [val])
  refine ⟨n, hn, fun k hk => ?_⟩
  obtain ⟨k, rfl⟩ : ∃ m, k = m + 1 := ⟨k - 1, by omega⟩
  unfold vary_Get.f
  rw [if_neg (by omega), decide_eq_false (by omega)]
  simp only [vary_Get.j0, Bool.false_eq_true, if_false]
  exact h k (by omega)
theorem get_out (b : List Int) (a : Int) (ha : a < 0 ∨ (b.length : Int) < a) (k : Nat) (hk : 1 ≤ k) : vary_Get.f k b a = some (0, 0, 3) := by
  obtain ⟨k, rfl⟩ : ∃ m, k = m + 1 := ⟨k - 1, by omega⟩
  unfold vary_Get.f
  by_cases h : a < 0
  · rw [if_pos h]; simp only [vary_Get.j0, if_true]
  · rw [if_neg h, decide_eq_true (by omega)]; simp only [vary_Get.j0, if_true]
/-- what is put is got -/
theorem get_enc (x m : Nat) (hx : x < 2 ^ 64) (hc : Cnt x m) (b : List Int) (hb : Rng b) (hlen : b.length ≤ 281474976710656) (a : Nat) (ha : a + m ≤ b.length) (he : ∀ j, j < m → rd b ((a + j : Nat) : Int) = byt x m j) :
    ∀ k, 12 ≤ k → vary_Get.f k b (a : Int) = some ((x : Int), ((a + m : Nat) : Int), 0) := by
  obtain ⟨n, hn, h⟩ := get_in b hb hlen a (by omega)
  have hm1 := hc.1
  have hm2 := hc.2.1
  have htop := top_digit hc
  have hlast : rd b ((a + (m - 1) : Nat) : Int) = ((dgt x (m - 1) : Nat) : Int) := by rw [he (m - 1) (by omega)]; unfold byt; rw [if_neg (by omega)]
  have hd := dgt_lt x (m - 1)
  have hs : Stop b a (m - 1) := ⟨by omega, fun j hj => ⟨by omega, by rw [he j (by omega)]; unfold byt; rw [if_pos (by omega)]; omega⟩, .inr (.inr ⟨by omega, by omega⟩)⟩
  obtain rfl := hn.unique hs
  intro k hk
  rw [h k hk]
  unfold getR
  rw [if_neg (by omega), if_neg (by omega), if_neg, show m - 1 + 1 = m by omega, val_enc hc b a he]
  · congr 3; omega
  · rintro (⟨h1, h2⟩ | ⟨h1, h2⟩)
    · have := htop.2 (by omega); omega
    · have := top_ten hc hx (by omega)
      have e9 : dgt x (m - 1) = dgt x 9 := by rw [h2]
      omega
/-- cut short it is told so -/
theorem get_short (x m : Nat) (hc : Cnt x m) (b : List Int) (hb : Rng b) (i : Nat) (hi : i < m) (hl : b.length = i) (he : ∀ j, j < i → rd b ((j : Nat) : Int) = byt x m j) :
    ∀ k, 12 ≤ k → vary_Get.f k b 0 = some (0, 0, 5) := by
  have hm2 := hc.2.1
  obtain ⟨n, hn, h⟩ := get_in b hb (by omega) 0 (by omega)
  have hs : Stop b 0 i := ⟨by omega, fun j hj => ⟨by omega, by rw [Nat.zero_add, he j hj]; unfold byt; rw [if_pos (by omega)]; omega⟩, .inr (.inl (by omega))⟩
  obtain rfl := hn.unique hs
  intro k hk
  have := h k hk
  rw [show ((0 : Nat) : Int) = 0 from rfl] at this
  rw [this]
  unfold getR
  rw [if_neg (by omega), if_pos (by omega)]
theorem enc_rng (x m : Nat) : Rng (enc x m) := by
  intro i hi
  rw [enc_length] at hi
  rw [enc_rd x m i hi]
  exact byt_range x m i
/-! ### Zig and Zag -/
theorem xor_comm_ (k : IntKind) (a b : Int) : Go.bits .xor k a b = Go.bits .xor k b a := by
  show k.wrap ((BitVec.ofInt k.bits a ^^^ BitVec.ofInt k.bits b).toNat : Int) = k.wrap ((BitVec.ofInt k.bits b ^^^ BitVec.ofInt k.bits a).toNat : Int)
  rw [BitVec.xor_comm]
theorem wrapU64 (n : Int) : IntKind.u64.wrap n = n % 18446744073709551616 := by simp [IntKind.wrap, IntKind.bits, IntKind.signed]
theorem zig_spec (x : Int) (h0 : -9223372036854775808 ≤ x) (h1 : x ≤ 9223372036854775807) : vary_Zig.f x = some (if 0 ≤ x then 2 * x else -2 * x - 1) := by
  unfold vary_Zig.f
  by_cases hx : 0 ≤ x
  · rw [if_pos hx, show x / 9223372036854775808 = 0 by omega]
    have e1 : IntKind.u64.wrap (IntKind.u64.wrap x * 2) = (((2 * x).toNat : Nat) : Int) := by rw [wrapU64, wrapU64]; omega
    have e2 : IntKind.u64.wrap 0 = ((0 : Nat) : Int) := by decide
    rw [e1, e2, bits_xor_u64_nat _ _ (by omega) (by decide), Nat.xor_zero]
    exact congrArg some (by omega)
  · rw [if_neg hx, show x / 9223372036854775808 = -1 by omega]
    have e1 : IntKind.u64.wrap (IntKind.u64.wrap x * 2) = (((2 * x + 18446744073709551616).toNat : Nat) : Int) := by rw [wrapU64, wrapU64]; omega
    have e2 : IntKind.u64.wrap (-1) = ((2 ^ 64 - 1 : Nat) : Int) := by decide
    rw [e1, e2, xor_comm_, bits_xor_u64_nat _ _ (by decide) (by omega), Lib.xor_ones64 _ (by omega)]
    exact congrArg some (by omega)
theorem xor_i64_zero (a : Int) (h0 : 0 ≤ a) (h1 : a < 9223372036854775808) : Go.bits .xor .i64 a 0 = a := by
  show IntKind.i64.wrap ((BitVec.ofInt 64 a ^^^ BitVec.ofInt 64 0).toNat : Int) = _
  obtain ⟨n, rfl⟩ := Int.eq_ofNat_of_zero_le h0
  have h2 : (BitVec.ofInt 64 (n : Int)).toNat = n := by
    rw [BitVec.ofInt_natCast, BitVec.toNat_ofNat]; exact Nat.mod_eq_of_lt (by omega)
  have h3 : (BitVec.ofInt 64 0).toNat = 0 := by decide
  rw [BitVec.toNat_xor, h2, h3, Nat.xor_zero, IntKind.wrap_i64]
  omega
theorem zag_spec (u : Int) (h0 : 0 ≤ u) (h1 : u < 18446744073709551616) : vary_Zag.f u = some (if u % 2 = 0 then u / 2 else -(u / 2) - 1) := by
  unfold vary_Zag.f
  rw [Lib.u64_and1 u h0 h1]
  have e1 : wrap64 (u / 2) = u / 2 := by unfold wrap64; omega
  rw [e1]
  by_cases h : u % 2 = 0
  · rw [if_pos h, h, show wrap64 (-(wrap64 0)) = 0 by unfold wrap64; omega, xor_i64_zero _ (by omega) (by omega)]
  · rw [if_neg h, show u % 2 = 1 by omega, show wrap64 (-(wrap64 1)) = -1 by unfold wrap64; omega, xor_comm_]
    obtain ⟨n, hn⟩ := Int.eq_ofNat_of_zero_le (show 0 ≤ u / 2 by omega)
    rw [hn, Lib.i64_not n (by omega)]
/-! ### the document's Put -/
theorem enc_step {x m : Nat} (hx : 128 ≤ x) (h : Cnt x m) : 2 ≤ m ∧ Cnt (x / 128) (m - 1) ∧ enc x m = ((128 + x % 128 : Nat) : Int) :: enc (x / 128) (m - 1) := by
  obtain ⟨h1, h2, h3, h4⟩ := h
  have hm : 2 ≤ m := by
    rcases Nat.lt_or_ge m 2 with h | h
    · obtain rfl : m = 1 := by omega
      omega
    · exact h
  obtain ⟨n, rfl⟩ : ∃ n, m = n + 2 := ⟨m - 2, by omega⟩
  have e1 : n + 2 - 1 = n + 1 := by omega
  rw [e1] at h4 ⊢
  refine ⟨hm, ⟨by omega, by omega, ?_, ?_⟩, ?_⟩
  · rw [Nat.div_lt_iff_lt_mul (by decide), ← Nat.pow_succ]; exact h3
  · rcases h4 with h4 | h4
    · omega
    · rcases Nat.eq_zero_or_pos n with rfl | hn
      · exact .inl rfl
      · refine .inr ?_
        rw [Nat.le_div_iff_mul_le (by decide), ← Nat.pow_succ]
        exact Nat.le_trans (Nat.pow_le_pow_right (by decide) (by omega)) h4
  · have hd : ∀ j, dgt (x / 128) j = dgt x (j + 1) := fun j => by unfold dgt; rw [Nat.div_div_eq_div_mul, Nat.pow_succ, Nat.mul_comm]
    unfold enc
    rw [List.range_succ_eq_map, List.map_cons, List.map_map]
    congr 1
    · unfold byt dgt
      rw [if_pos (by omega)]
      simp
    · apply List.map_congr_left
      intro j _
      show byt x (n + 2) (j + 1) = byt (x / 128) (n + 1) j
      unfold byt
      rw [hd j]
      by_cases h : j + 1 < n + 1
      · rw [if_pos (by omega), if_pos h]
      · rw [if_neg (by omega), if_neg h]
theorem zig_zag (x : Int) (h0 : -9223372036854775808 ≤ x) (h1 : x ≤ 9223372036854775807) : ∃ u, vary_Zig.f x = some u ∧ vary_Zag.f u = some x := by
  refine ⟨_, zig_spec x h0 h1, ?_⟩
  by_cases h : 0 ≤ x
  · rw [if_pos h, zag_spec _ (by omega) (by omega), if_pos (by omega)]; exact congrArg some (by omega)
  · rw [if_neg h, zag_spec _ (by omega) (by omega), if_neg (by omega)]; exact congrArg some (by omega)
theorem zag_zig (u : Int) (h0 : 0 ≤ u) (h1 : u < 18446744073709551616) : ∃ x, vary_Zag.f u = some x ∧ vary_Zig.f x = some u := by
  refine ⟨_, zag_spec u h0 h1, ?_⟩
  by_cases h : u % 2 = 0
  · rw [if_pos h, zig_spec _ (by omega) (by omega), if_pos (by omega)]; exact congrArg some (by omega)
  · rw [if_neg h, zig_spec _ (by omega) (by omega), if_neg (by omega)]; exact congrArg some (by omega)
theorem get_good (b : List Int) (hb : Rng b) (a n : Nat) (hs : Stop b a n) (h10 : n ≠ 10) (hl : a + n ≠ b.length) (hc : ¬ ((rd b ((a + n : Nat) : Int) = 0 ∧ 0 < n) ∨ (1 < rd b ((a + n : Nat) : Int) ∧ n = 9))) :
    n ≤ 9 ∧ a + n < b.length ∧ val b a (n + 1) < 2 ^ 64 ∧ Cnt (val b a (n + 1)) (n + 1) ∧ ∀ j, j < n + 1 → rd b ((a + j : Nat) : Int) = byt (val b a (n + 1)) (n + 1) j := by
  obtain ⟨h1, h2, h3⟩ := hs
  have hlt : a + n < b.length ∧ rd b ((a + n : Nat) : Int) < 128 := by
    rcases h3 with h3 | h3 | h3
    · exact absurd h3 h10
    · exact absurd h3 hl
    · exact h3
  have hr := hb (a + n) hlt.1
  have ho := own_bytes b a n (by omega) (fun j hj => ⟨(h2 j hj).2, (hb (a + j) (h2 j hj).1).2⟩) hr.1 hlt.2 (fun e => by omega)
  refine ⟨by omega, hlt.1, ?_, ho⟩
  rw [val_succ]
  have hv := val_lt b a n
  by_cases h9 : n = 9
  · subst h9
    have : (rd b ((a + 9 : Nat) : Int)).toNat % 128 ≤ 1 := by omega
    have := Nat.mul_le_mul_right (128 ^ 9) this
    have e : (128 : Nat) ^ 9 + 1 * 128 ^ 9 ≤ 2 ^ 64 := by decide
    omega
  · have e : (128 : Nat) ^ n ≤ 128 ^ 8 := Nat.pow_le_pow_right (by decide) (by omega)
    have h7 : (rd b ((a + n : Nat) : Int)).toNat % 128 ≤ 127 := by omega
    have := Nat.mul_le_mul h7 e
    have e2 : (128 : Nat) ^ 8 + 127 * 128 ^ 8 < 2 ^ 64 := by decide
    omega
end Va
end Go.Proofs.YtbdknddgfmoipaaGreatDoor.QA
namespace Go.Proofs.YtbdknddgfmoipaaGreatDoor.QA
open Go.RowKit Go.Proofs.YtbdknddgfmoipaaGreatDoorW.PrintWords Go.Proofs.YtbdknddgfmoipaaGreatDoorW.PrintLast Go.Proofs.YtbdknddgfmoipaaGreatDoorW.PrintMore
set_option linter.unusedVariables false
set_option linter.unusedSimpArgs false
def small (l : List S42) : Prop := (l.map fun x => x.f2.length + 4).sum ≤ 1048576
def tot (l : List S42) : Nat := (l.map fun x => x.f2.length).sum
theorem small_tot {l : List S42} (h : small l) : tot l + 4 * l.length ≤ 1048576 := by
  have : ∀ l : List S42, (l.map fun x => x.f2.length + 4).sum = tot l + 4 * l.length := by
    intro l
    induction l with
    | nil => rfl
    | cons a r ih => unfold tot at *; simp only [List.map_cons, List.sum_cons, List.length_cons, ih]; omega
  unfold small at h
  rw [this] at h
  exact h
theorem tot_cons (x : S42) (l : List S42) : tot (x :: l) = x.f2.length + tot l := by simp [tot]
theorem tot_drop_le (l : List S42) (i : Nat) : tot (l.drop i) ≤ tot l := by
  have e : tot l = tot (l.take i) + tot (l.drop i) := by
    unfold tot
    rw [← List.sum_append, ← List.map_append, List.take_append_drop]
  omega
theorem tot_mem {l : List S42} {x : S42} (h : x ∈ l) : x.f2.length ≤ tot l := by
  induction l with
  | nil => cases h
  | cons a r ih =>
    rw [tot_cons]
    rcases List.mem_cons.1 h with rfl | h
    · omega
    · have := ih h; omega
theorem rdT (l : List S42) (i : Nat) (h : i < l.length) : rd_T42 l (i : Int) = l[i] := by
  unfold rd_T42
  rw [Int.toNat_natCast, List.getD_eq_getElem?_getD, List.getElem?_eq_getElem h]
  rfl
theorem i64_of_wf {x : Int} (hx : (Lit.int .i64 x).wf = true) : -9223372036854775808 ≤ x ∧ x ≤ 9223372036854775807 := by
  simp only [Lit.wf, IntKind.min, IntKind.max, IntKind.signed, IntKind.bits, Bool.and_eq_true] at hx
  simp at hx
  omega
def chk : List S42 → Nat → Int
  | [], _ => 0
  | x :: r, a => if x.f0 ≠ 0 ∧ x.f0 ≠ 1 then 2 else if 65536 < x.f2.length ∨ 262144 < a + x.f2.length then 6 else chk r (a + x.f2.length)
theorem check_l0 (l : List S42) (hl : small l) : ∀ d i k a : Nat, i + d = l.length → a ≤ 262144 → 2 * d + 1 ≤ k → event_Check.l0 k (262144 - (a : Int)) l (l.length : Int) (i : Int) = some (chk (l.drop i) a) := by
  have hs := small_tot hl
  intro d
  induction d with
  | zero =>
    intro i k a hi ha hk
    obtain ⟨k, rfl⟩ : ∃ k', k = k' + 1 := ⟨k - 1, by omega⟩
    rw [event_Check.l0, if_neg (by omega), List.drop_of_length_le (by omega)]
    rfl
  | succ d ih =>
    intro i k a hi ha hk
    obtain ⟨k, rfl⟩ : ∃ k', k = k' + 1 + 1 := ⟨k - 2, by omega⟩
    have hlt : i < l.length := by omega
    have hx := tot_mem (List.getElem_mem hlt)
    rw [event_Check.l0, if_pos (by omega), if_pos (by omega), if_pos (by omega), rdT l i hlt, List.drop_eq_getElem_cons hlt, chk]
    have hj : ∀ b, b = decide (l[i].f0 ≠ 0 ∧ l[i].f0 ≠ 1) → event_Check.j1 (k + 1) (wrap64 (262144 - (a : Int) - (l[i].f2.length : Int))) l (l.length : Int) (i : Int) b l[i].f0 l[i].f1 l[i].f2 = some (if l[i].f0 ≠ 0 ∧ l[i].f0 ≠ 1 then 2 else if 65536 < l[i].f2.length ∨ 262144 < a + l[i].f2.length then 6 else chk (l.drop (i + 1)) (a + l[i].f2.length)) := by
      intro b hb
      have hw : wrap64 (262144 - (a : Int) - (l[i].f2.length : Int)) = 262144 - (a : Int) - (l[i].f2.length : Int) := by unfold wrap64; omega
      have hw1 : wrap64 ((i : Int) + 1) = ((i + 1 : Nat) : Int) := by unfold wrap64; omega
      rw [event_Check.j1, hw, hw1]
      by_cases h : l[i].f0 ≠ 0 ∧ l[i].f0 ≠ 1
      · rw [hb, decide_eq_true h, if_pos rfl, if_pos h]
      · rw [hb, decide_eq_false h, if_neg (by decide), if_neg h]
        by_cases h2 : 65536 < l[i].f2.length
        · rw [if_pos (by omega), if_pos (.inl h2)]
        · rw [if_neg (by omega)]
          by_cases h3 : 262144 < a + l[i].f2.length
          · rw [if_pos (by omega), if_pos (.inr h3)]
          · rw [if_neg (by omega), if_neg (by omega)]
            have := ih (i + 1) k (a + l[i].f2.length) (by omega) (by omega) (by omega)
            rw [← this]
            congr 1
            omega
    by_cases h0 : l[i].f0 = 0
    · rw [if_pos h0]
      exact hj false (by rw [decide_eq_false]; exact fun h => h.1 h0)
    · rw [if_neg h0]
      refine hj _ ?_
      by_cases h1 : l[i].f0 = 1
      · rw [decide_eq_false (fun h => h.2 h1)]; simp [h1]
      · rw [decide_eq_true ⟨h0, h1⟩]; simpa using h1
theorem check_f (l : List S42) (hl : small l) {k : Nat} (hk : 2 * l.length + 1 ≤ k) : event_Check.f k l = some (if 4096 < l.length then 10 else chk l 0) := by
  unfold event_Check.f
  by_cases h : 4096 < l.length
  · rw [if_pos (by omega), if_pos h]
  · rw [if_neg (by omega), if_neg h]
    exact check_l0 l hl l.length 0 k 0 (by omega) (by omega) hk
end Go.Proofs.YtbdknddgfmoipaaGreatDoor.QA
-- Written for this claim by a program of this session's, out of Lean's own print of the program; Lean checks it.
namespace Go.Proofs.YtbdknddgfmoipaaGreatDoor.QA
open Go.RowKit Go.Proofs.YtbdknddgfmoipaaGreatDoorW.PrintWords Go.Proofs.YtbdknddgfmoipaaGreatDoorW.PrintLast Go.Proofs.YtbdknddgfmoipaaGreatDoorW.PrintMore
attribute [local go_sem] max2_int min2_int max_two min_two max_three min_three max_four min_four   -- for this text's walks alone
set_option linter.unusedVariables false
set_option linter.unusedSimpArgs false

/-! ### trans_Encode: function 30 -/
def trans_Encode.l0 : Nat → List Int → Int → List (S42) → Int → Int → List (S42) → Bool → Option (List Int × Int)
  | 0, _, _, _, _, _, _, _ => none
  | k + 1, x5, x6, x18, x19, x20, x112000, x112001 => if x20 < x19 then (if 0 ≤ x20 then (if x20 < (x18.length : Int) then (if x5.length < 140737488355328 then ((some (x5 ++ [(wrap64 (1 + ((rd_T42 x18 x20).f0))) % 256] : List Int)).bind fun y121 => ((clock_Delta.f x6 ((rd_T42 x18 x20).f1)).bind fun t124 => ((vary_Zig.f t124).bind fun t125 => ((vary_Put.f k t125).bind fun t126 => (if y121.length + t126.length < 140737488355328 then ((some (y121 ++ t126 : List Int)).bind fun y129 => ((vary_Put.f k (IntKind.u64.wrap ((((rd_T42 x18 x20).f2).length : Int)))).bind fun t132 => (if y129.length + t132.length < 140737488355328 then ((some (y129 ++ t132 : List Int)).bind fun y135 => (if y135.length + ((rd_T42 x18 x20).f2).length < 140737488355328 then (trans_Encode.l0 k (y135 ++ ((rd_T42 x18 x20).f2)) ((rd_T42 x18 x20).f1) x18 x19 (wrap64 (x20 + 1)) x112000 x112001) else (none))) else (none)))) else (none)))))) else (none)) else (none)) else (none)) else (if x112001 = true then (if x5.length < 140737488355328 then (some ((x5 ++ [3]), 0)) else (none)) else (some (x5, 0)))
def trans_Encode.f (k : Nat) (l0_0 : List (S42)) (a0_1 : Bool) : Option (List Int × Int) := (event_Check.f k l0_0).bind fun t112 => (if t112 = 0 then (trans_Encode.l0 k (([67, 85, 69, 49] : List Int)) 0 l0_0 (l0_0.length : Int) 0 l0_0 a0_1) else (some (([] : List Int), t112)))
theorem trans_Encode.mono_l : ∀ k, (∀ y0 y1 y2 y3 y4 y5 y6, LeO (trans_Encode.l0 k y0 y1 y2 y3 y4 y5 y6) (trans_Encode.l0 (k + 1) y0 y1 y2 y3 y4 y5 y6))
  | 0 => fun _ _ _ _ _ _ _ r h => by simp [trans_Encode.l0] at h
  | k + 1 => by
    have ih0 := trans_Encode.mono_l k
    · intro y0 y1 y2 y3 y4 y5 y6
      unfold trans_Encode.l0
      repeat' first
      | (with_reducible exact ih0 _ _ _ _ _ _ _)
      | (with_reducible exact event_Check.mono _ _)
      | (with_reducible exact vary_Put.mono _ _)
      | (with_reducible exact LeO.refl _)
      | (with_reducible exact LeO.none _)
      | (with_reducible refine LeO.ite ?_ ?_)
      | (with_reducible refine LeO.bind ?_ (fun _ => ?_))
      | exact ih0 _ _ _ _ _ _ _
      | exact event_Check.mono _ _
      | exact vary_Put.mono _ _
      | exact LeO.none _
      | refine LeO.ite ?_ ?_
      | refine LeO.bind ?_ (fun _ => ?_)
theorem trans_Encode.mono : ∀ a0 a1 k, LeO (trans_Encode.f k a0 a1) (trans_Encode.f (k + 1) a0 a1) := by
  intro a0 a1 k
  have ih0 := trans_Encode.mono_l k
  unfold trans_Encode.f
  repeat' first
      | (with_reducible exact ih0 _ _ _ _ _ _ _)
      | (with_reducible exact event_Check.mono _ _)
      | (with_reducible exact vary_Put.mono _ _)
      | (with_reducible exact LeO.refl _)
      | (with_reducible exact LeO.none _)
      | (with_reducible refine LeO.ite ?_ ?_)
      | (with_reducible refine LeO.bind ?_ (fun _ => ?_))
      | exact ih0 _ _ _ _ _ _ _
      | exact event_Check.mono _ _
      | exact vary_Put.mono _ _
      | exact LeO.none _
      | refine LeO.ite ?_ ?_
      | refine LeO.bind ?_ (fun _ => ?_)
set_option maxHeartbeats 8000000 in
set_option maxRecDepth 100000 in
theorem trans_Encode.calls (k : Nat) (A0_0 : Option Addr) (c0_0 : Nat) (l0_0 : List (S42)) (a0_1 : Bool) (r1 : List Int) (r2 : Int) (w : World) (hr0_0 : Kd.C k42 w A0_0 l0_0.length l0_0) (hc0_0 : l0_0.length ≤ c0_0) (h : trans_Encode.f k l0_0 a0_1 = some (r1, r2)) :
    Calls Tryz.prog 30 #[.agg #[.slice A0_0 l0_0.length c0_0, .bool a0_1]] w fun e w' => ∃ v0_ : Value, e = .returned (.tuple #[v0_, .int .i64 r2]) ∧ KL.R w' w.heap.size (fun _ => True) v0_ r1 ∧ Below w.heap.size w w' := by
  have hu37 := Tryz.underlying37
  have hu42 := Tryz.underlying42
  have HR0_0 := Aside0.mk hr0_0
  have HC0_0 := Aside0.mk hc0_0
  clear hr0_0 hc0_0
  have HB := Aside0.mk (Below.refl w.heap.size w)
  have H : ((event_Check.f k l0_0).bind fun t112 => (if t112 = 0 then (trans_Encode.l0 k (([67, 85, 69, 49] : List Int)) 0 l0_0 (l0_0.length : Int) 0 l0_0 a0_1) else (some (([] : List Int), t112)))) = some (r1, r2) := h
  clear h
  replace H := Option.bind_eq_some_iff.mp H
  obtain ⟨t112, A20, H⟩ := H
  replace H : (if t112 = 0 then (trans_Encode.l0 k (([67, 85, 69, 49] : List Int)) 0 l0_0 (l0_0.length : Int) 0 l0_0 a0_1) else (some (([] : List Int), t112))) = some (r1, r2) := H
  have A2 := Aside0.mk A20
  clear A20
  by_cases c3 : t112 = 0
  · rw [if_pos c3] at H
    have c3b0 : (t112 == 0) = true := beq_iff_eq.mpr c3
    have c3b1 : (t112 != 0) = false := bne_eq_false_iff_eq.mpr c3
    clear c3
    obtain ⟨y113, hy113⟩ : ∃ y_ : List Int, y_ = (([67, 85, 69, 49] : List Int)) := ⟨_, rfl⟩
    replace H : (trans_Encode.l0 k y113 0 l0_0 (l0_0.length : Int) 0 l0_0 a0_1) = some (r1, r2) := by first | (rw [hy113]; with_reducible exact H) | (have H2_ := (Option.bind_some _ _).symm.trans H; rw [hy113]; with_reducible exact H2_) | (have H2_ := (Option.bind_some _ _).symm.trans H; with_reducible exact H2_) | with_reducible exact H | (rw [hy113]; exact H) | exact H
    have Ny113 := Aside0.mk hy113
    clear hy113
    have H' := Aside0.mk H
    clear H
    go_enter Tryz.func30, Tryz.ntmps30
    have kc := fun (w : World) (C : Array Value) (n c g : Nat) (hg : g = w.heap.size) => Joins.run_convert_bytes_const_at (P := Tryz.prog) w 25 5 C n c g hg Tryz.underlying25 Tryz.underlying5
    go_wp2_with (first | ((with_reducible refine gate_dst (N := 1) rfl ?_); refine box_event ?hg (N := 1) ?hd (cs := #[.slice A0_0 l0_0.length c0_0, .bool a0_1]) (t := 37) ?hr ?_; (case hd => rfl); (case hg => rfl); (case hr => first | (go_simp; done) | (go_simp; rfl)); intro gb111 hg w4 hbox hb; have n0_ := Aside0.mk (below_step (by repeat (first | (with_reducible first | exact HB.out | apply below_alloc | apply pw_below_drewN | apply below_drew1) | exact HB.out)) hb); have n1_ := Aside0.mk (hbox); have n2_ := Aside0.mk ((by rw [hg]; exact (below_size (by repeat (first | (with_reducible first | exact HB.out | apply below_alloc | apply pw_below_drewN | apply below_drew1) | exact HB.out))) : w.heap.size ≤ gb111)); have n3_ := Aside0.mk ((by rw [hg]; exact (below_size (by repeat (first | (with_reducible first | exact HB.out | apply below_alloc | apply pw_below_drewN | apply below_drew1) | exact HB.out))) : w.heap.size ≤ gb111)); clear HB; have HB := n0_; have BK111 := n1_; have GW111 := n2_; have GE111 := n3_; clear n0_ n1_ n2_ n3_; clear hb hbox hg; have hcz5_0 : w4.cell? ⟨gb111, 0, none⟩ = some (.slice A0_0 l0_0.length c0_0) := (blk_cell BK111.out 0).trans rfl; have hcz5_1 : w4.cell? ⟨gb111, 1, none⟩ = some (.bool a0_1) := (blk_cell BK111.out 1).trans rfl; have hfz5_0 := blk_frozen BK111.out 0; have hfz5_1 := blk_frozen BK111.out 1) | ((with_reducible refine gate_callee (f := 54) rfl ?_); refine goesL_ (some 11) rfl rfl Tryz.func54 (by kernel_rfl) rfl #[.slice A0_0 l0_0.length c0_0] rfl (by (try simp only [List.map_toArray, List.map_cons, List.map_nil]); first | done | rfl | (simp only [List.length_drop, List.length_take]; rfl)) ?_; (with_reducible refine (event_Check.calls k _ _ l0_0 t112 _ ?side1 ?side2 A2.out).mono ?_); (case side1 => repeat (first | exact (Kd.C_below HR0_0.out HB.out) | (with_reducible refine Kd.C_alloc ?_ _) | (with_reducible refine Kd.C_drewN ?_ _) | (with_reducible refine Kd.C_drew ?_))); (case side2 => exact HC0_0.out); rintro e w6 ⟨rfl, hb⟩; refine ⟨_, rfl, ?_⟩; have n0_ := Aside0.mk (blk_below (g := gb111) (o := .cells #[.slice A0_0 l0_0.length c0_0, .bool a0_1] 37 (0, 0)) (by (with_reducible repeat (first | refine blk_drewN ?_ _ | refine blk_drew ?_ | refine blk_alloc ?_ _)); exact BK111.out) hb); have n1_ := Aside0.mk (below_step (by repeat (first | (with_reducible first | exact HB.out | apply below_alloc | apply pw_below_drewN | apply below_drew1 | refine below_set ?_ GE111.out) | exact HB.out)) hb); clear BK111; clear HB; have BK111 := n0_; have HB := n1_; clear n0_ n1_; (have hczk_0 : w6.cell? ⟨gb111, 0, none⟩ = some (.slice A0_0 l0_0.length c0_0) := (blk_cell BK111.out 0).trans rfl; have hczk_1 : w6.cell? ⟨gb111, 1, none⟩ = some (.bool a0_1) := (blk_cell BK111.out 1).trans rfl; have hczu_0 := fun (o_ : Obj) => pw_cell_below (below_alloc (Below.refl _ _) o_) hczk_0; have hczu_1 := fun (o_ : Obj) => pw_cell_below (below_alloc (Below.refl _ _) o_) hczk_1); (try clear hb); (try clear hb2); (try clear hk); (try clear hi)))
    go_loopg [5, 6, 20] k (fun kq v5 v6 v20 w' => ∃ (x5_1 : List Int) (x6_1 : Int) (x20_1 : Int), v6 = .int .i64 x6_1 ∧ v20 = .int .i64 x20_1 ∧ Aside0 (trans_Encode.l0 kq x5_1 x6_1 l0_0 (l0_0.length : Int) x20_1 l0_0 a0_1 = some (r1, r2)) ∧ Aside0 (kq ≤ k) ∧ Aside0 (KL.R w' w.heap.size (fun _ => True) v5 x5_1) ∧ Aside0 (w'.heap[gb111]? = some (.cells #[(.slice A0_0 l0_0.length c0_0), .bool a0_1] 37 (0, 0))) ∧ Aside0 (Below w.heap.size w w'))
    case atStart => exact ⟨(y113), (0), (0), (by first | rfl | (simp; done) | (simp [*]; done)), (by first | rfl | (simp; done) | (simp [*]; done)), H', ⟨Nat.le_refl _⟩, ⟨.inr ⟨_, by rw [Ny113.out]; rfl, by rw [Ny113.out]; decide, by rw [Ny113.out]; decide, below_size (by repeat (first | (with_reducible first | exact HB.out | apply below_alloc | apply pw_below_drewN | apply below_drew1 | refine below_set ?_ GE110.out) | exact HB.out)), trivial, by rw [Ny113.out]; exact World.alloc_heap_new _ _⟩⟩, ⟨by (with_reducible repeat (first | refine blk_drewN ?_ _ | refine blk_drew ?_ | refine blk_alloc ?_ _)); exact BK111.out⟩, ⟨by repeat (first | (with_reducible first | exact HB.out | apply below_alloc | apply pw_below_drewN | apply below_drew1 | refine below_set ?_ GE111.out) | exact HB.out)⟩⟩
    case round =>
      clear H'
      try clear p2
      try clear c3
      try clear c3b0
      try clear c3b1
      try clear c5
      try clear hcz5_0
      try clear hcz5_1
      try clear hcz9_0
      try clear hcz9_1
      try clear hfz5_0
      try clear hfz5_1
      try clear hfz9_0
      try clear hfz9_1
      obtain ⟨x5_1, x6_1, x20_1, rfl, rfl, HA, HK1, HO_5, BK111, HB⟩ := hrel
      cases gk with
      | zero => exact absurd HA.out (by simp [trans_Encode.l0])
      | succ k1 =>
        have H := HA.out
        clear HA
        simp only [trans_Encode.l0] at H
        by_cases c10 : x20_1 < (l0_0.length : Int)
        · rw [if_pos c10] at H
          have c10b0 : decide (x20_1 < (l0_0.length : Int)) = true := decide_eq_true c10
          clear c10
          by_cases c11 : 0 ≤ x20_1
          · rw [if_pos c11] at H
            have c11b0 : decide (0 ≤ x20_1) = true := decide_eq_true c11
            clear c11
            by_cases c12 : x20_1 < (l0_0.length : Int)
            · rw [if_pos c12] at H
              have c12b0 : decide (x20_1 < (l0_0.length : Int)) = true := decide_eq_true c12
              clear c12
              by_cases c13 : x5_1.length < 140737488355328
              · rw [if_pos c13] at H
                have LMc13 := Aside0.mk c13
                clear c13
                obtain ⟨y121, hy121⟩ : ∃ y_ : List Int, y_ = (x5_1 ++ [(wrap64 (1 + ((rd_T42 l0_0 x20_1).f0))) % 256]) := ⟨_, rfl⟩
                replace H : ((clock_Delta.f x6_1 ((rd_T42 l0_0 x20_1).f1)).bind fun t124 => ((vary_Zig.f t124).bind fun t125 => ((vary_Put.f k1 t125).bind fun t126 => (if y121.length + t126.length < 140737488355328 then ((some (y121 ++ t126 : List Int)).bind fun y129 => ((vary_Put.f k1 (IntKind.u64.wrap ((((rd_T42 l0_0 x20_1).f2).length : Int)))).bind fun t132 => (if y129.length + t132.length < 140737488355328 then ((some (y129 ++ t132 : List Int)).bind fun y135 => (if y135.length + ((rd_T42 l0_0 x20_1).f2).length < 140737488355328 then (trans_Encode.l0 k1 (y135 ++ ((rd_T42 l0_0 x20_1).f2)) ((rd_T42 l0_0 x20_1).f1) l0_0 (l0_0.length : Int) (wrap64 (x20_1 + 1)) l0_0 a0_1) else (none))) else (none)))) else (none))))) = some (r1, r2) := by first | (rw [hy121]; with_reducible exact H) | (have H2_ := (Option.bind_some _ _).symm.trans H; rw [hy121]; with_reducible exact H2_) | (have H2_ := (Option.bind_some _ _).symm.trans H; with_reducible exact H2_) | with_reducible exact H | (rw [hy121]; exact H) | exact H
                have Ny121 := Aside0.mk hy121
                clear hy121
                replace H := Option.bind_eq_some_iff.mp H
                obtain ⟨t124, A140, H⟩ := H
                replace H : ((vary_Zig.f t124).bind fun t125 => ((vary_Put.f k1 t125).bind fun t126 => (if y121.length + t126.length < 140737488355328 then ((some (y121 ++ t126 : List Int)).bind fun y129 => ((vary_Put.f k1 (IntKind.u64.wrap ((((rd_T42 l0_0 x20_1).f2).length : Int)))).bind fun t132 => (if y129.length + t132.length < 140737488355328 then ((some (y129 ++ t132 : List Int)).bind fun y135 => (if y135.length + ((rd_T42 l0_0 x20_1).f2).length < 140737488355328 then (trans_Encode.l0 k1 (y135 ++ ((rd_T42 l0_0 x20_1).f2)) ((rd_T42 l0_0 x20_1).f1) l0_0 (l0_0.length : Int) (wrap64 (x20_1 + 1)) l0_0 a0_1) else (none))) else (none)))) else (none)))) = some (r1, r2) := H
                have A14 := Aside0.mk A140
                clear A140
                replace H := Option.bind_eq_some_iff.mp H
                obtain ⟨t125, A150, H⟩ := H
                replace H : ((vary_Put.f k1 t125).bind fun t126 => (if y121.length + t126.length < 140737488355328 then ((some (y121 ++ t126 : List Int)).bind fun y129 => ((vary_Put.f k1 (IntKind.u64.wrap ((((rd_T42 l0_0 x20_1).f2).length : Int)))).bind fun t132 => (if y129.length + t132.length < 140737488355328 then ((some (y129 ++ t132 : List Int)).bind fun y135 => (if y135.length + ((rd_T42 l0_0 x20_1).f2).length < 140737488355328 then (trans_Encode.l0 k1 (y135 ++ ((rd_T42 l0_0 x20_1).f2)) ((rd_T42 l0_0 x20_1).f1) l0_0 (l0_0.length : Int) (wrap64 (x20_1 + 1)) l0_0 a0_1) else (none))) else (none)))) else (none))) = some (r1, r2) := H
                have A15 := Aside0.mk A150
                clear A150
                replace H := Option.bind_eq_some_iff.mp H
                obtain ⟨t126, A160, H⟩ := H
                replace H : (if y121.length + t126.length < 140737488355328 then ((some (y121 ++ t126 : List Int)).bind fun y129 => ((vary_Put.f k1 (IntKind.u64.wrap ((((rd_T42 l0_0 x20_1).f2).length : Int)))).bind fun t132 => (if y129.length + t132.length < 140737488355328 then ((some (y129 ++ t132 : List Int)).bind fun y135 => (if y135.length + ((rd_T42 l0_0 x20_1).f2).length < 140737488355328 then (trans_Encode.l0 k1 (y135 ++ ((rd_T42 l0_0 x20_1).f2)) ((rd_T42 l0_0 x20_1).f1) l0_0 (l0_0.length : Int) (wrap64 (x20_1 + 1)) l0_0 a0_1) else (none))) else (none)))) else (none)) = some (r1, r2) := H
                have A16 := Aside0.mk A160
                clear A160
                by_cases c17 : y121.length + t126.length < 140737488355328
                · rw [if_pos c17] at H
                  have LMc17 := Aside0.mk c17
                  clear c17
                  obtain ⟨y129, hy129⟩ : ∃ y_ : List Int, y_ = (y121 ++ t126) := ⟨_, rfl⟩
                  replace H : ((vary_Put.f k1 (IntKind.u64.wrap ((((rd_T42 l0_0 x20_1).f2).length : Int)))).bind fun t132 => (if y129.length + t132.length < 140737488355328 then ((some (y129 ++ t132 : List Int)).bind fun y135 => (if y135.length + ((rd_T42 l0_0 x20_1).f2).length < 140737488355328 then (trans_Encode.l0 k1 (y135 ++ ((rd_T42 l0_0 x20_1).f2)) ((rd_T42 l0_0 x20_1).f1) l0_0 (l0_0.length : Int) (wrap64 (x20_1 + 1)) l0_0 a0_1) else (none))) else (none))) = some (r1, r2) := by first | (rw [hy129]; with_reducible exact H) | (have H2_ := (Option.bind_some _ _).symm.trans H; rw [hy129]; with_reducible exact H2_) | (have H2_ := (Option.bind_some _ _).symm.trans H; with_reducible exact H2_) | with_reducible exact H | (rw [hy129]; exact H) | exact H
                  have Ny129 := Aside0.mk hy129
                  clear hy129
                  replace H := Option.bind_eq_some_iff.mp H
                  obtain ⟨t132, A180, H⟩ := H
                  replace H : (if y129.length + t132.length < 140737488355328 then ((some (y129 ++ t132 : List Int)).bind fun y135 => (if y135.length + ((rd_T42 l0_0 x20_1).f2).length < 140737488355328 then (trans_Encode.l0 k1 (y135 ++ ((rd_T42 l0_0 x20_1).f2)) ((rd_T42 l0_0 x20_1).f1) l0_0 (l0_0.length : Int) (wrap64 (x20_1 + 1)) l0_0 a0_1) else (none))) else (none)) = some (r1, r2) := H
                  have A18 := Aside0.mk A180
                  clear A180
                  by_cases c19 : y129.length + t132.length < 140737488355328
                  · rw [if_pos c19] at H
                    have LMc19 := Aside0.mk c19
                    clear c19
                    obtain ⟨y135, hy135⟩ : ∃ y_ : List Int, y_ = (y129 ++ t132) := ⟨_, rfl⟩
                    replace H : (if y135.length + ((rd_T42 l0_0 x20_1).f2).length < 140737488355328 then (trans_Encode.l0 k1 (y135 ++ ((rd_T42 l0_0 x20_1).f2)) ((rd_T42 l0_0 x20_1).f1) l0_0 (l0_0.length : Int) (wrap64 (x20_1 + 1)) l0_0 a0_1) else (none)) = some (r1, r2) := by first | (rw [hy135]; with_reducible exact H) | (have H2_ := (Option.bind_some _ _).symm.trans H; rw [hy135]; with_reducible exact H2_) | (have H2_ := (Option.bind_some _ _).symm.trans H; with_reducible exact H2_) | with_reducible exact H | (rw [hy135]; exact H) | exact H
                    have Ny135 := Aside0.mk hy135
                    clear hy135
                    by_cases c20 : y135.length + ((rd_T42 l0_0 x20_1).f2).length < 140737488355328
                    · rw [if_pos c20] at H
                      have LMc20 := Aside0.mk c20
                      clear c20
                      obtain ⟨y138, hy138⟩ : ∃ y_ : List Int, y_ = (y135 ++ ((rd_T42 l0_0 x20_1).f2)) := ⟨_, rfl⟩
                      replace H : (trans_Encode.l0 k1 y138 ((rd_T42 l0_0 x20_1).f1) l0_0 (l0_0.length : Int) (wrap64 (x20_1 + 1)) l0_0 a0_1) = some (r1, r2) := by first | (rw [hy138]; with_reducible exact H) | (have H2_ := (Option.bind_some _ _).symm.trans H; rw [hy138]; with_reducible exact H2_) | (have H2_ := (Option.bind_some _ _).symm.trans H; with_reducible exact H2_) | with_reducible exact H | (rw [hy138]; exact H) | exact H
                      have Ny138 := Aside0.mk hy138
                      clear hy138
                      have H' := Aside0.mk H
                      clear H
                      have p119 : 0 ≤ (x20_1 : Int) := of_decide_eq_true (by first | (with_reducible assumption) | assumption)
                      have q119 : x20_1 < (l0_0.length : Int) := of_decide_eq_true (by first | (with_reducible assumption) | assumption)
                      obtain ⟨ad119, A119_2, c119_2, e119, hx119_0, hx119_1, hx119_2, hl119_2, hi119_2⟩ := at_T42 HR0_0.out x20_1 p119 q119
                      cases e119
                      replace hx119_0 := (HB.out.cell (World.block_lt_of_cell? w _ hx119_0)).trans hx119_0
                      replace hx119_1 := (HB.out.cell (World.block_lt_of_cell? w _ hx119_1)).trans hx119_1
                      replace hx119_2 := (HB.out.cell (World.block_lt_of_cell? w _ hx119_2)).trans hx119_2
                      have HR119_2 := Aside0.mk hi119_2
                      have HC119_2 := Aside0.mk hl119_2
                      clear hi119_2 hl119_2
                      replace p119 := eq_true p119
                      replace q119 := eq_true q119
                      go_wp2_with (first | ((with_reducible refine gate_dst (N := 8) rfl ?_); refine box_event ?hg (N := 8) ?hd (cs := #[.int .i64 0, .int .i64 0, .slice none 0 0]) (t := 42) ?hr ?_; (case hd => rfl); (case hg => rfl); (case hr => first | (go_simp; done) | (go_simp; rfl)); intro gb120 hg w21 hbox hb; have n0_ := Aside0.mk (KL.R_below (by (with_reducible repeat (first | apply KL.R_alloc | apply KL.R_drewN | apply KL.R_drew)); exact HO_5.out) hb); have n1_ := Aside0.mk (blk_below (g := gb111) (o := .cells #[.slice (some ad119) l0_0.length c0_0, .bool a0_1] 37 (0, 0)) (by (with_reducible repeat (first | refine blk_drewN ?_ _ | refine blk_drew ?_ | refine blk_alloc ?_ _)); exact BK111.out) hb); have n2_ := Aside0.mk (below_step (by repeat (first | (with_reducible first | exact HB.out | apply below_alloc | apply pw_below_drewN | apply below_drew1 | refine below_set ?_ GE111.out) | exact HB.out)) hb); have n3_ := Aside0.mk (hbox); have n4_ := Aside0.mk ((by rw [hg]; exact (below_size (by repeat (first | (with_reducible first | exact HB.out | apply below_alloc | apply pw_below_drewN | apply below_drew1 | refine below_set ?_ GE111.out) | exact HB.out))) : w.heap.size ≤ gb120)); have n5_ := Aside0.mk ((by rw [hg]; exact (below_size (by repeat (first | (with_reducible first | exact HB.out | apply below_alloc | apply pw_below_drewN | apply below_drew1 | refine below_set ?_ GE111.out) | exact HB.out))) : w.heap.size ≤ gb120)); have n6_ := Aside0.mk ((by rw [hg]; exact Nat.ne_of_lt (blk_lt (g := gb111) (o := .cells #[.slice (some ad119) l0_0.length c0_0, .bool a0_1] 37 (0, 0)) (by (with_reducible repeat (first | refine blk_drewN ?_ _ | refine blk_drew ?_ | refine blk_alloc ?_ _)); exact BK111.out)) : gb111 ≠ gb120)); have n7_ := Aside0.mk ((by rw [hg]; exact Nat.ne_of_gt (blk_lt (g := gb111) (o := .cells #[.slice (some ad119) l0_0.length c0_0, .bool a0_1] 37 (0, 0)) (by (with_reducible repeat (first | refine blk_drewN ?_ _ | refine blk_drew ?_ | refine blk_alloc ?_ _)); exact BK111.out)) : gb120 ≠ gb111)); clear HO_5; clear BK111; clear HB; have HO_5 := n0_; have BK111 := n1_; have HB := n2_; have BK120 := n3_; have GW120 := n4_; have GE120 := n5_; have NB111_120 := n6_; have NB120_111 := n7_; clear n0_ n1_ n2_ n3_ n4_ n5_ n6_ n7_; clear hb hbox hg; have hnb22 := NB120_111.out; have hnc22 := NB111_120.out; have hcz23_0 : w21.cell? ⟨gb120, 0, none⟩ = some (.int .i64 0) := (blk_cell BK120.out 0).trans rfl; have hcz23_1 : w21.cell? ⟨gb120, 1, none⟩ = some (.int .i64 0) := (blk_cell BK120.out 1).trans rfl; have hcz23_2 : w21.cell? ⟨gb120, 2, none⟩ = some (.slice none 0 0) := (blk_cell BK120.out 2).trans rfl; have hfz23_0 := blk_frozen BK120.out 0; have hfz23_1 := blk_frozen BK120.out 1; have hfz23_2 := blk_frozen BK120.out 2) | ((with_reducible refine gate_builtin (b := .append) (xs := #[.tmp 24, .tmp 29]) rfl ?_); at_builtin; refine KL.R_append (w0 := w) w.heap.size rfl (.tmp 24) (.tmp 29) 25 rfl Tryz.underlying25 info5 u5 x5_1 ((wrap64 (1 + ((rd_T42 l0_0 x20_1).f0))) % 256) (fun _ => True) rfl (by first | (go_simp; done) | (go_simp; rfl)) ?aF ?aO ?aB ?aS ?aL ?_; (case aB => exact (by repeat (first | (with_reducible first | exact HB.out | apply below_alloc | apply pw_below_drewN | apply below_drew1 | refine below_set ?_ GE111.out | refine below_set ?_ GE120.out) | exact HB.out))); (case aF => exact (fun _ _ => trivial)); (case aO => exact (by (with_reducible repeat (first | apply KL.R_alloc | apply KL.R_drewN | apply KL.R_drew)); exact KL.R_mono (KL.R_far (p := ⟨gb120, 2, none⟩) (KL.R_far (p := ⟨gb120, 1, none⟩) (KL.R_far (p := ⟨gb120, 0, none⟩) (KL.R_types HO_5.out BK120.out (by decide)) (fun _ hk => hk.2) (.int .i64 ((rd_T42 l0_0 x20_1).f0))) (fun _ hk => hk.2) (.int .i64 ((rd_T42 l0_0 x20_1).f1))) (fun _ hk => hk.2) (.slice A119_2 ((rd_T42 l0_0 x20_1).f2).length c119_2)) (fun _ hk => trivial))); (case aS => exact (below_size (by repeat (first | (with_reducible first | exact HB.out | apply below_alloc | apply pw_below_drewN | apply below_drew1 | refine below_set ?_ GE111.out | refine below_set ?_ GE120.out) | exact HB.out)))); (case aL => have := LMc13.out; omega); intro v122 w24 ho hb hg hat; rw [← Ny121.out] at ho; have n0_ := Aside0.mk (blk_grown (g := gb111) (o := .cells #[.slice (some ad119) l0_0.length c0_0, .bool a0_1] 37 (0, 0)) (by (with_reducible repeat (first | refine blk_drewN ?_ _ | refine blk_drew ?_ | refine blk_alloc ?_ _)); refine blk_far ?_ NB111_120.out _; (with_reducible repeat (first | refine blk_drewN ?_ _ | refine blk_drew ?_ | refine blk_alloc ?_ _)); refine blk_far ?_ NB111_120.out _; (with_reducible repeat (first | refine blk_drewN ?_ _ | refine blk_drew ?_ | refine blk_alloc ?_ _)); refine blk_far ?_ NB111_120.out _; (with_reducible repeat (first | refine blk_drewN ?_ _ | refine blk_drew ?_ | refine blk_alloc ?_ _)); exact BK111.out) hg (KL.R_ne HO_5.out BK111.out (by decide))); have n1_ := Aside0.mk (blk_grown (g := gb120) (o := .cells #[.int .i64 ((rd_T42 l0_0 x20_1).f0), .int .i64 ((rd_T42 l0_0 x20_1).f1), .slice A119_2 ((rd_T42 l0_0 x20_1).f2).length c119_2] 42 (0, 0)) (by (with_reducible repeat (first | refine blk_drewN ?_ _ | refine blk_drew ?_ | refine blk_alloc ?_ _)); refine blk_put (cs := #[.int .i64 ((rd_T42 l0_0 x20_1).f0), .int .i64 ((rd_T42 l0_0 x20_1).f1), .slice none 0 0]) ?_ 2 _ rfl; (with_reducible repeat (first | refine blk_drewN ?_ _ | refine blk_drew ?_ | refine blk_alloc ?_ _)); refine blk_put (cs := #[.int .i64 ((rd_T42 l0_0 x20_1).f0), .int .i64 0, .slice none 0 0]) ?_ 1 _ rfl; (with_reducible repeat (first | refine blk_drewN ?_ _ | refine blk_drew ?_ | refine blk_alloc ?_ _)); refine blk_put (cs := #[.int .i64 0, .int .i64 0, .slice none 0 0]) ?_ 0 _ rfl; (with_reducible repeat (first | refine blk_drewN ?_ _ | refine blk_drew ?_ | refine blk_alloc ?_ _)); exact BK120.out) hg (KL.R_ne HO_5.out BK120.out (by decide))); have n2_ := Aside0.mk (hb); have n3_ := Aside0.mk (ho); clear BK111; clear BK120; clear HB; clear HO_5; have BK111 := n0_; have BK120 := n1_; have HB := n2_; have HO123 := n3_; clear n0_ n1_ n2_ n3_; clear ho hb hg hat; have hcz25_0 : w24.cell? ⟨gb120, 0, none⟩ = some (.int .i64 ((rd_T42 l0_0 x20_1).f0)) := (blk_cell BK120.out 0).trans rfl; have hcz25_1 : w24.cell? ⟨gb120, 1, none⟩ = some (.int .i64 ((rd_T42 l0_0 x20_1).f1)) := (blk_cell BK120.out 1).trans rfl; have hcz25_2 : w24.cell? ⟨gb120, 2, none⟩ = some (.slice A119_2 ((rd_T42 l0_0 x20_1).f2).length c119_2) := (blk_cell BK120.out 2).trans rfl; have hfz25_0 := blk_frozen BK120.out 0; have hfz25_1 := blk_frozen BK120.out 1; have hfz25_2 := blk_frozen BK120.out 2) | ((with_reducible refine gate_callee (f := 57) rfl ?_); refine goesL_ (some 35) rfl rfl Tryz.func57 (by kernel_rfl) rfl #[.int .i64 x6_1, .int .i64 ((rd_T42 l0_0 x20_1).f1)] rfl (by (try simp only [List.map_toArray, List.map_cons, List.map_nil]); first | done | rfl | (simp only [List.length_drop, List.length_take]; rfl)) ?_; (with_reducible refine (clock_Delta.calls x6_1 ((rd_T42 l0_0 x20_1).f1) t124 _ A14.out).mono ?_); rintro e w26 ⟨rfl, hb⟩; refine ⟨_, rfl, ?_⟩; have n0_ := Aside0.mk (Kd.R_below (by (with_reducible repeat (first | apply Kd.R_alloc | apply Kd.R_drewN | apply Kd.R_drew)); exact HO123.out) hb); have n1_ := Aside0.mk (blk_below (g := gb111) (o := .cells #[.slice (some ad119) l0_0.length c0_0, .bool a0_1] 37 (0, 0)) (by (with_reducible repeat (first | refine blk_drewN ?_ _ | refine blk_drew ?_ | refine blk_alloc ?_ _)); exact BK111.out) hb); have n2_ := Aside0.mk (blk_below (g := gb120) (o := .cells #[.int .i64 ((rd_T42 l0_0 x20_1).f0), .int .i64 ((rd_T42 l0_0 x20_1).f1), .slice A119_2 ((rd_T42 l0_0 x20_1).f2).length c119_2] 42 (0, 0)) (by (with_reducible repeat (first | refine blk_drewN ?_ _ | refine blk_drew ?_ | refine blk_alloc ?_ _)); exact BK120.out) hb); have n3_ := Aside0.mk (below_step (by repeat (first | (with_reducible first | exact HB.out | apply below_alloc | apply pw_below_drewN | apply below_drew1 | refine below_set ?_ GE111.out | refine below_set ?_ GE120.out) | exact HB.out)) hb); clear HO123; clear BK111; clear BK120; clear HB; have HO123 := n0_; have BK111 := n1_; have BK120 := n2_; have HB := n3_; clear n0_ n1_ n2_ n3_; (try clear hb); (try clear hb2); (try clear hk); (try clear hi)) | ((with_reducible refine gate_callee (f := 56) rfl ?_); refine goesL_ (some 36) rfl rfl Tryz.func56 (by kernel_rfl) rfl #[.int .i64 t124] rfl (by (try simp only [List.map_toArray, List.map_cons, List.map_nil]); first | done | rfl | (simp only [List.length_drop, List.length_take]; rfl)) ?_; (with_reducible refine (vary_Zig.calls t124 t125 _ A15.out).mono ?_); rintro e w27 ⟨rfl, hb⟩; refine ⟨_, rfl, ?_⟩; have n0_ := Aside0.mk (Kd.R_below (by (with_reducible repeat (first | apply Kd.R_alloc | apply Kd.R_drewN | apply Kd.R_drew)); exact HO123.out) hb); have n1_ := Aside0.mk (blk_below (g := gb111) (o := .cells #[.slice (some ad119) l0_0.length c0_0, .bool a0_1] 37 (0, 0)) (by (with_reducible repeat (first | refine blk_drewN ?_ _ | refine blk_drew ?_ | refine blk_alloc ?_ _)); exact BK111.out) hb); have n2_ := Aside0.mk (blk_below (g := gb120) (o := .cells #[.int .i64 ((rd_T42 l0_0 x20_1).f0), .int .i64 ((rd_T42 l0_0 x20_1).f1), .slice A119_2 ((rd_T42 l0_0 x20_1).f2).length c119_2] 42 (0, 0)) (by (with_reducible repeat (first | refine blk_drewN ?_ _ | refine blk_drew ?_ | refine blk_alloc ?_ _)); exact BK120.out) hb); have n3_ := Aside0.mk (below_step (by repeat (first | (with_reducible first | exact HB.out | apply below_alloc | apply pw_below_drewN | apply below_drew1 | refine below_set ?_ GE111.out | refine below_set ?_ GE120.out) | exact HB.out)) hb); clear HO123; clear BK111; clear BK120; clear HB; have HO123 := n0_; have BK111 := n1_; have BK120 := n2_; have HB := n3_; clear n0_ n1_ n2_ n3_; (try clear hb); (try clear hb2); (try clear hk); (try clear hi)) | ((with_reducible refine gate_callee (f := 55) rfl ?_); refine goesL_ (some 37) rfl rfl Tryz.func55 (by kernel_rfl) rfl #[.int .u64 t125] rfl (by (try simp only [List.map_toArray, List.map_cons, List.map_nil]); first | done | rfl | (simp only [List.length_drop, List.length_take]; rfl)) ?_; (with_reducible refine (vary_Put.calls k1 t125 t126 _ A16.out).mono ?_); rintro e w28 ⟨v127, rfl, ho0, hb⟩; refine ⟨_, rfl, ?_⟩; have n0_ := Aside0.mk (Kd.R_elder' (by (with_reducible repeat (first | apply Kd.R_alloc | apply Kd.R_drewN | apply Kd.R_drew)); exact HO123.out) (Kd.R_base ho0) hb); have n1_ := Aside0.mk (Kd.R_lower (Kd.R_new' ho0 (Kd.R_lt (by (with_reducible repeat (first | apply Kd.R_alloc | apply Kd.R_drewN | apply Kd.R_drew)); exact HO123.out))) (below_size (by repeat (first | (with_reducible first | exact HB.out | apply below_alloc | apply pw_below_drewN | apply below_drew1 | refine below_set ?_ GE111.out | refine below_set ?_ GE120.out) | exact HB.out)))); have n2_ := Aside0.mk (blk_below (g := gb111) (o := .cells #[.slice (some ad119) l0_0.length c0_0, .bool a0_1] 37 (0, 0)) (by (with_reducible repeat (first | refine blk_drewN ?_ _ | refine blk_drew ?_ | refine blk_alloc ?_ _)); exact BK111.out) hb); have n3_ := Aside0.mk (blk_below (g := gb120) (o := .cells #[.int .i64 ((rd_T42 l0_0 x20_1).f0), .int .i64 ((rd_T42 l0_0 x20_1).f1), .slice A119_2 ((rd_T42 l0_0 x20_1).f2).length c119_2] 42 (0, 0)) (by (with_reducible repeat (first | refine blk_drewN ?_ _ | refine blk_drew ?_ | refine blk_alloc ?_ _)); exact BK120.out) hb); have n4_ := Aside0.mk (below_step (by repeat (first | (with_reducible first | exact HB.out | apply below_alloc | apply pw_below_drewN | apply below_drew1 | refine below_set ?_ GE111.out | refine below_set ?_ GE120.out) | exact HB.out)) hb); clear HO123; clear BK111; clear BK120; clear HB; have HO123 := n0_; have HO128 := n1_; have BK111 := n2_; have BK120 := n3_; have HB := n4_; clear n0_ n1_ n2_ n3_ n4_; (try clear hb); (try clear hb2); (try clear hk); (try clear hi); (try clear ho0); obtain ⟨Ao30, co30, eo30⟩ := Kd.R_slice HO128.out; subst eo30) | ((with_reducible refine gate_builtin (b := .append) (xs := #[.tmp 31, .tmp 37]) rfl ?_); at_builtin; refine Kd.R_append_rows (Kd.int .u8) (w0 := w) w.heap.size rfl (.tmp 31) (.tmp 37) 25 5 (.int .u8 0) 1 rfl Tryz.underlying25 info5 rfl (by decide) (by omega) v122 y121 t126 _ _ _ (fun k_ => some k_ ≠ (.slice Ao30 t126.length co30 : Value).ownBlock) (fun _ => False) rfl rfl ?aO ?aR (fun _ _ h => h) (fun _ h => h.elim) ?aF ?aB ?aS ?aL ?_; (case aR => repeat (first | exact (Kd.R_reads' HO128.out).2.2 | (with_reducible refine Kd.C_alloc ?_ _) | (with_reducible refine Kd.C_drewN ?_ _) | (with_reducible refine Kd.C_drew ?_))); (case aB => exact (by repeat (first | (with_reducible first | exact HB.out | apply below_alloc | apply pw_below_drewN | apply below_drew1 | refine below_set ?_ GE111.out | refine below_set ?_ GE120.out) | exact HB.out))); (case aF => exact (fun k_ hk => Kd.fresh' (Kd.R_lt (by (with_reducible repeat (first | apply Kd.R_alloc | apply Kd.R_drewN | apply Kd.R_drew)); exact HO128.out)) k_ hk)); (case aO => exact (by (with_reducible repeat (first | apply Kd.R_alloc | apply Kd.R_drewN | apply Kd.R_drew)); exact Kd.R_mono HO123.out (fun _ hk => hk.2))); (case aS => exact (below_size (by repeat (first | (with_reducible first | exact HB.out | apply below_alloc | apply pw_below_drewN | apply below_drew1 | refine below_set ?_ GE111.out | refine below_set ?_ GE120.out) | exact HB.out)))); (case aL => have := LMc17.out; omega); intro v130 w29 ho hb hg hat; rw [← Ny129.out] at ho; have n0_ := Aside0.mk (blk_grown (g := gb111) (o := .cells #[.slice (some ad119) l0_0.length c0_0, .bool a0_1] 37 (0, 0)) (by (with_reducible repeat (first | refine blk_drewN ?_ _ | refine blk_drew ?_ | refine blk_alloc ?_ _)); exact BK111.out) hg (Kd.R_ne HO123.out BK111.out (by decide))); have n1_ := Aside0.mk (blk_grown (g := gb120) (o := .cells #[.int .i64 ((rd_T42 l0_0 x20_1).f0), .int .i64 ((rd_T42 l0_0 x20_1).f1), .slice A119_2 ((rd_T42 l0_0 x20_1).f2).length c119_2] 42 (0, 0)) (by (with_reducible repeat (first | refine blk_drewN ?_ _ | refine blk_drew ?_ | refine blk_alloc ?_ _)); exact BK120.out) hg (Kd.R_ne HO123.out BK120.out (by decide))); have n2_ := Aside0.mk (Kd.R_after (ok := (fun _ => True)) (by (with_reducible repeat (first | apply Kd.R_alloc | apply Kd.R_drewN | apply Kd.R_drew)); exact HO128.out) hg hat); have n3_ := Aside0.mk (hb); have n4_ := Aside0.mk (ho); clear BK111; clear BK120; clear HO128; clear HB; clear HO123; have BK111 := n0_; have BK120 := n1_; have HO128 := n2_; have HB := n3_; have HO131 := n4_; clear n0_ n1_ n2_ n3_ n4_; clear ho hb hg hat; have hcz31_0 : w29.cell? ⟨gb120, 0, none⟩ = some (.int .i64 ((rd_T42 l0_0 x20_1).f0)) := (blk_cell BK120.out 0).trans rfl; have hcz31_1 : w29.cell? ⟨gb120, 1, none⟩ = some (.int .i64 ((rd_T42 l0_0 x20_1).f1)) := (blk_cell BK120.out 1).trans rfl; have hcz31_2 : w29.cell? ⟨gb120, 2, none⟩ = some (.slice A119_2 ((rd_T42 l0_0 x20_1).f2).length c119_2) := (blk_cell BK120.out 2).trans rfl; have hfz31_0 := blk_frozen BK120.out 0; have hfz31_1 := blk_frozen BK120.out 1; have hfz31_2 := blk_frozen BK120.out 2) | ((with_reducible refine gate_callee (f := 55) rfl ?_); refine goesL_ (some 44) rfl rfl Tryz.func55 (by kernel_rfl) rfl #[.int .u64 (IntKind.u64.wrap ((((rd_T42 l0_0 x20_1).f2).length : Int)))] rfl (by (try simp only [List.map_toArray, List.map_cons, List.map_nil]); first | done | rfl | (simp only [List.length_drop, List.length_take]; rfl)) ?_; (with_reducible refine (vary_Put.calls k1 (IntKind.u64.wrap ((((rd_T42 l0_0 x20_1).f2).length : Int))) t132 _ A18.out).mono ?_); rintro e w32 ⟨v133, rfl, ho0, hb⟩; refine ⟨_, rfl, ?_⟩; have n0_ := Aside0.mk (Kd.R_elder' (by (with_reducible repeat (first | apply Kd.R_alloc | apply Kd.R_drewN | apply Kd.R_drew)); exact HO128.out) (Kd.R_base ho0) hb); have n1_ := Aside0.mk (Kd.R_elder' (by (with_reducible repeat (first | apply Kd.R_alloc | apply Kd.R_drewN | apply Kd.R_drew)); exact HO131.out) (Kd.R_base ho0) hb); have n2_ := Aside0.mk (Kd.R_lower (Kd.R_new' (Kd.R_new' ho0 (Kd.R_lt (by (with_reducible repeat (first | apply Kd.R_alloc | apply Kd.R_drewN | apply Kd.R_drew)); exact HO128.out))) (Kd.R_lt (by (with_reducible repeat (first | apply Kd.R_alloc | apply Kd.R_drewN | apply Kd.R_drew)); exact HO131.out))) (below_size (by repeat (first | (with_reducible first | exact HB.out | apply below_alloc | apply pw_below_drewN | apply below_drew1 | refine below_set ?_ GE111.out | refine below_set ?_ GE120.out) | exact HB.out)))); have n3_ := Aside0.mk (blk_below (g := gb111) (o := .cells #[.slice (some ad119) l0_0.length c0_0, .bool a0_1] 37 (0, 0)) (by (with_reducible repeat (first | refine blk_drewN ?_ _ | refine blk_drew ?_ | refine blk_alloc ?_ _)); exact BK111.out) hb); have n4_ := Aside0.mk (blk_below (g := gb120) (o := .cells #[.int .i64 ((rd_T42 l0_0 x20_1).f0), .int .i64 ((rd_T42 l0_0 x20_1).f1), .slice A119_2 ((rd_T42 l0_0 x20_1).f2).length c119_2] 42 (0, 0)) (by (with_reducible repeat (first | refine blk_drewN ?_ _ | refine blk_drew ?_ | refine blk_alloc ?_ _)); exact BK120.out) hb); have n5_ := Aside0.mk (below_step (by repeat (first | (with_reducible first | exact HB.out | apply below_alloc | apply pw_below_drewN | apply below_drew1 | refine below_set ?_ GE111.out | refine below_set ?_ GE120.out) | exact HB.out)) hb); clear HO128; clear HO131; clear BK111; clear BK120; clear HB; have HO128 := n0_; have HO131 := n1_; have HO134 := n2_; have BK111 := n3_; have BK120 := n4_; have HB := n5_; clear n0_ n1_ n2_ n3_ n4_ n5_; (try clear hb); (try clear hb2); (try clear hk); (try clear hi); (try clear ho0); obtain ⟨Ao34, co34, eo34⟩ := Kd.R_slice HO134.out; subst eo34) | ((with_reducible refine gate_builtin (b := .append) (xs := #[.tmp 39, .tmp 44]) rfl ?_); at_builtin; refine Kd.R_append_rows (Kd.int .u8) (w0 := w) w.heap.size rfl (.tmp 39) (.tmp 44) 25 5 (.int .u8 0) 1 rfl Tryz.underlying25 info5 rfl (by decide) (by omega) v130 y129 t132 _ _ _ (fun k_ => some k_ ≠ (.slice Ao30 t126.length co30 : Value).ownBlock ∧ some k_ ≠ (.slice Ao34 t132.length co34 : Value).ownBlock) (fun _ => False) rfl rfl ?aO ?aR (fun _ _ h => h) (fun _ h => h.elim) ?aF ?aB ?aS ?aL ?_; (case aR => repeat (first | exact (Kd.R_reads' HO134.out).2.2 | (with_reducible refine Kd.C_alloc ?_ _) | (with_reducible refine Kd.C_drewN ?_ _) | (with_reducible refine Kd.C_drew ?_))); (case aB => exact (by repeat (first | (with_reducible first | exact HB.out | apply below_alloc | apply pw_below_drewN | apply below_drew1 | refine below_set ?_ GE111.out | refine below_set ?_ GE120.out) | exact HB.out))); (case aF => exact (fun k_ hk => ⟨Kd.fresh' (Kd.R_lt (by (with_reducible repeat (first | apply Kd.R_alloc | apply Kd.R_drewN | apply Kd.R_drew)); exact HO128.out)) k_ hk, Kd.fresh' (Kd.R_lt (by (with_reducible repeat (first | apply Kd.R_alloc | apply Kd.R_drewN | apply Kd.R_drew)); exact HO134.out)) k_ hk⟩)); (case aO => exact (by (with_reducible repeat (first | apply Kd.R_alloc | apply Kd.R_drewN | apply Kd.R_drew)); exact HO131.out)); (case aS => exact (below_size (by repeat (first | (with_reducible first | exact HB.out | apply below_alloc | apply pw_below_drewN | apply below_drew1 | refine below_set ?_ GE111.out | refine below_set ?_ GE120.out) | exact HB.out)))); (case aL => have := LMc19.out; omega); intro v136 w33 ho hb hg hat; rw [← Ny135.out] at ho; have n0_ := Aside0.mk (blk_grown (g := gb111) (o := .cells #[.slice (some ad119) l0_0.length c0_0, .bool a0_1] 37 (0, 0)) (by (with_reducible repeat (first | refine blk_drewN ?_ _ | refine blk_drew ?_ | refine blk_alloc ?_ _)); exact BK111.out) hg (Kd.R_ne HO131.out BK111.out (by decide))); have n1_ := Aside0.mk (blk_grown (g := gb120) (o := .cells #[.int .i64 ((rd_T42 l0_0 x20_1).f0), .int .i64 ((rd_T42 l0_0 x20_1).f1), .slice A119_2 ((rd_T42 l0_0 x20_1).f2).length c119_2] 42 (0, 0)) (by (with_reducible repeat (first | refine blk_drewN ?_ _ | refine blk_drew ?_ | refine blk_alloc ?_ _)); exact BK120.out) hg (Kd.R_ne HO131.out BK120.out (by decide))); have n2_ := Aside0.mk (Kd.R_after (ok := (fun k_ => some k_ ≠ (.slice Ao34 t132.length co34 : Value).ownBlock)) (by (with_reducible repeat (first | apply Kd.R_alloc | apply Kd.R_drewN | apply Kd.R_drew)); exact Kd.R_mono HO128.out (fun _ hk => ⟨hk.2, hk.1.2⟩)) hg hat); have n3_ := Aside0.mk (Kd.R_after (ok := (fun k_ => some k_ ≠ (.slice Ao30 t126.length co30 : Value).ownBlock)) (by (with_reducible repeat (first | apply Kd.R_alloc | apply Kd.R_drewN | apply Kd.R_drew)); exact Kd.R_mono HO134.out (fun _ hk => ⟨hk.1.2, hk.2⟩)) hg hat); have n4_ := Aside0.mk (hb); have n5_ := Aside0.mk (ho); clear BK111; clear BK120; clear HO128; clear HO134; clear HB; clear HO131; have BK111 := n0_; have BK120 := n1_; have HO128 := n2_; have HO134 := n3_; have HB := n4_; have HO137 := n5_; clear n0_ n1_ n2_ n3_ n4_ n5_; clear ho hb hg hat; have hcz35_0 : w33.cell? ⟨gb120, 0, none⟩ = some (.int .i64 ((rd_T42 l0_0 x20_1).f0)) := (blk_cell BK120.out 0).trans rfl; have hcz35_1 : w33.cell? ⟨gb120, 1, none⟩ = some (.int .i64 ((rd_T42 l0_0 x20_1).f1)) := (blk_cell BK120.out 1).trans rfl; have hcz35_2 : w33.cell? ⟨gb120, 2, none⟩ = some (.slice A119_2 ((rd_T42 l0_0 x20_1).f2).length c119_2) := (blk_cell BK120.out 2).trans rfl; have hfz35_0 := blk_frozen BK120.out 0; have hfz35_1 := blk_frozen BK120.out 1; have hfz35_2 := blk_frozen BK120.out 2) | ((with_reducible refine gate_builtin (b := .append) (xs := #[.tmp 46, .tmp 48]) rfl ?_); at_builtin; refine Kd.R_append_rows (Kd.int .u8) (w0 := w) w.heap.size rfl (.tmp 46) (.tmp 48) 25 5 (.int .u8 0) 1 rfl Tryz.underlying25 info5 rfl (by decide) (by omega) v136 y135 ((rd_T42 l0_0 x20_1).f2) _ _ _ (fun k_ => some k_ ≠ (.slice Ao30 t126.length co30 : Value).ownBlock ∧ some k_ ≠ (.slice Ao34 t132.length co34 : Value).ownBlock) (fun _ => False) rfl rfl ?aO ?aR (fun _ _ h => h) (fun _ h => h.elim) ?aF ?aB ?aS ?aL ?_; (case aR => repeat (first | exact (Kd.C_below HR119_2.out HB.out) | (with_reducible refine Kd.C_alloc ?_ _) | (with_reducible refine Kd.C_drewN ?_ _) | (with_reducible refine Kd.C_drew ?_))); (case aB => exact (by repeat (first | (with_reducible first | exact HB.out | apply below_alloc | apply pw_below_drewN | apply below_drew1 | refine below_set ?_ GE111.out | refine below_set ?_ GE120.out) | exact HB.out))); (case aF => exact (fun k_ hk => ⟨Kd.fresh' (Kd.R_lt (by (with_reducible repeat (first | apply Kd.R_alloc | apply Kd.R_drewN | apply Kd.R_drew)); exact HO128.out)) k_ hk, Kd.fresh' (Kd.R_lt (by (with_reducible repeat (first | apply Kd.R_alloc | apply Kd.R_drewN | apply Kd.R_drew)); exact HO134.out)) k_ hk⟩)); (case aO => exact (by (with_reducible repeat (first | apply Kd.R_alloc | apply Kd.R_drewN | apply Kd.R_drew)); exact HO137.out)); (case aS => exact (below_size (by repeat (first | (with_reducible first | exact HB.out | apply below_alloc | apply pw_below_drewN | apply below_drew1 | refine below_set ?_ GE111.out | refine below_set ?_ GE120.out) | exact HB.out)))); (case aL => have := LMc20.out; omega); intro v139 w36 ho hb hg hat; rw [← Ny138.out] at ho; have n0_ := Aside0.mk (blk_grown (g := gb111) (o := .cells #[.slice (some ad119) l0_0.length c0_0, .bool a0_1] 37 (0, 0)) (by (with_reducible repeat (first | refine blk_drewN ?_ _ | refine blk_drew ?_ | refine blk_alloc ?_ _)); exact BK111.out) hg (Kd.R_ne HO137.out BK111.out (by decide))); have n1_ := Aside0.mk (blk_grown (g := gb120) (o := .cells #[.int .i64 ((rd_T42 l0_0 x20_1).f0), .int .i64 ((rd_T42 l0_0 x20_1).f1), .slice A119_2 ((rd_T42 l0_0 x20_1).f2).length c119_2] 42 (0, 0)) (by (with_reducible repeat (first | refine blk_drewN ?_ _ | refine blk_drew ?_ | refine blk_alloc ?_ _)); exact BK120.out) hg (Kd.R_ne HO137.out BK120.out (by decide))); have n2_ := Aside0.mk (Kd.R_after (ok := (fun k_ => some k_ ≠ (.slice Ao34 t132.length co34 : Value).ownBlock)) (by (with_reducible repeat (first | apply Kd.R_alloc | apply Kd.R_drewN | apply Kd.R_drew)); exact HO128.out) hg hat); have n3_ := Aside0.mk (Kd.R_after (ok := (fun k_ => some k_ ≠ (.slice Ao30 t126.length co30 : Value).ownBlock)) (by (with_reducible repeat (first | apply Kd.R_alloc | apply Kd.R_drewN | apply Kd.R_drew)); exact HO134.out) hg hat); have n4_ := Aside0.mk (hb); have n5_ := Aside0.mk (ho); clear BK111; clear BK120; clear HO128; clear HO134; clear HB; clear HO137; have BK111 := n0_; have BK120 := n1_; have HO128 := n2_; have HO134 := n3_; have HB := n4_; have HO140 := n5_; clear n0_ n1_ n2_ n3_ n4_ n5_; clear ho hb hg hat; have hcz37_0 : w36.cell? ⟨gb120, 0, none⟩ = some (.int .i64 ((rd_T42 l0_0 x20_1).f0)) := (blk_cell BK120.out 0).trans rfl; have hcz37_1 : w36.cell? ⟨gb120, 1, none⟩ = some (.int .i64 ((rd_T42 l0_0 x20_1).f1)) := (blk_cell BK120.out 1).trans rfl; have hcz37_2 : w36.cell? ⟨gb120, 2, none⟩ = some (.slice A119_2 ((rd_T42 l0_0 x20_1).f2).length c119_2) := (blk_cell BK120.out 2).trans rfl; have hfz37_0 := blk_frozen BK120.out 0; have hfz37_1 := blk_frozen BK120.out 1; have hfz37_2 := blk_frozen BK120.out 2))
                      go_roundg k1
                      case measure => have := HK1.out; omega
                      case rel => exact ⟨(y138), ((rd_T42 l0_0 x20_1).f1), (wrap64 (x20_1 + 1)), (by first | rfl | (simp; done) | (simp [*]; done)), (by first | rfl | (simp; done) | (simp [*]; done)), H', ⟨by have := HK1.out; omega⟩, ⟨.inl (by (with_reducible repeat (first | apply Kd.R_alloc | apply Kd.R_drewN | apply Kd.R_drew)); exact Kd.R_mono HO140.out (fun _ hk => trivial))⟩, ⟨by (with_reducible repeat (first | refine blk_drewN ?_ _ | refine blk_drew ?_ | refine blk_alloc ?_ _)); exact BK111.out⟩, ⟨by repeat (first | (with_reducible first | exact HB.out | apply below_alloc | apply pw_below_drewN | apply below_drew1 | refine below_set ?_ GE111.out | refine below_set ?_ GE120.out) | exact HB.out)⟩⟩
                    · rw [if_neg c20] at H
                      exact absurd H (by simp)
                  · rw [if_neg c19] at H
                    exact absurd H (by simp)
                · rw [if_neg c17] at H
                  exact absurd H (by simp)
              · rw [if_neg c13] at H
                exact absurd H (by simp)
            · rw [if_neg c12] at H
              exact absurd H (by simp)
          · rw [if_neg c11] at H
            exact absurd H (by simp)
        · rw [if_neg c10] at H
          have c10b0 : decide (x20_1 < (l0_0.length : Int)) = false := decide_eq_false c10
          clear c10
          by_cases c38 : a0_1 = true
          · subst c38
            have H1 : (if x5_1.length < 140737488355328 then (some ((x5_1 ++ [3]), 0)) else (none)) = some (r1, r2) := by rw [if_pos rfl] at H; exact H
            clear H
            have H := H1
            clear H1
            by_cases c39 : x5_1.length < 140737488355328
            · rw [if_pos c39] at H
              have LMc39 := Aside0.mk c39
              clear c39
              obtain ⟨y116, hy116⟩ : ∃ y_ : List Int, y_ = (x5_1 ++ [3]) := ⟨_, rfl⟩
              replace H : (some (y116, 0)) = some (r1, r2) := by first | (rw [hy116]; with_reducible exact H) | (have H2_ := (Option.bind_some _ _).symm.trans H; rw [hy116]; with_reducible exact H2_) | (have H2_ := (Option.bind_some _ _).symm.trans H; with_reducible exact H2_) | with_reducible exact H | (rw [hy116]; exact H) | exact H
              have Ny116 := Aside0.mk hy116
              clear hy116
              simp only [Option.some.injEq, Prod.mk.injEq] at H
              obtain ⟨rfl, rfl⟩ := H
              have hcz40_0 : wr.cell? ⟨gb111, 0, none⟩ = some (.slice A0_0 l0_0.length c0_0) := (blk_cell BK111.out 0).trans rfl
              have hcz40_1 : wr.cell? ⟨gb111, 1, none⟩ = some (.bool true) := (blk_cell BK111.out 1).trans rfl
              have hfz40_0 := blk_frozen BK111.out 0
              have hfz40_1 := blk_frozen BK111.out 1
              go_wp2_with (first | ((with_reducible refine gate_builtin (b := .append) (xs := #[.tmp 55, .tmp 56]) rfl ?_); at_builtin; refine KL.R_append (w0 := w) w.heap.size rfl (.tmp 55) (.tmp 56) 25 rfl Tryz.underlying25 info5 u5 x5_1 3 (fun _ => True) rfl rfl ?aF ?aO ?aB ?aS ?aL ?_; (case aB => exact (by repeat (first | (with_reducible first | exact HB.out | apply below_alloc | apply pw_below_drewN | apply below_drew1 | refine below_set ?_ GE111.out) | exact HB.out))); (case aF => exact (fun _ _ => trivial)); (case aO => exact (by (with_reducible repeat (first | apply KL.R_alloc | apply KL.R_drewN | apply KL.R_drew)); exact HO_5.out)); (case aS => exact (below_size (by repeat (first | (with_reducible first | exact HB.out | apply below_alloc | apply pw_below_drewN | apply below_drew1 | refine below_set ?_ GE111.out) | exact HB.out)))); (case aL => have := LMc39.out; omega); intro v117 w41 ho hb hg hat; rw [← Ny116.out] at ho; have n0_ := Aside0.mk (blk_grown (g := gb111) (o := .cells #[.slice A0_0 l0_0.length c0_0, .bool true] 37 (0, 0)) (by (with_reducible repeat (first | refine blk_drewN ?_ _ | refine blk_drew ?_ | refine blk_alloc ?_ _)); exact BK111.out) hg (KL.R_ne HO_5.out BK111.out (by decide))); have n1_ := Aside0.mk (hb); have n2_ := Aside0.mk (ho); clear BK111; clear HB; clear HO_5; have BK111 := n0_; have HB := n1_; have HO118 := n2_; clear n0_ n1_ n2_; clear ho hb hg hat))
              go_ret2
              exact ⟨_, by first | rfl | (simp [errW_none, errW_some] <;> rfl) | (simp [*, errW_none, errW_some] <;> rfl), .inl (by (with_reducible repeat (first | apply Kd.R_alloc | apply Kd.R_drewN | apply Kd.R_drew)); exact HO118.out), by repeat (first | (with_reducible first | exact HB.out | apply below_alloc | apply pw_below_drewN | apply below_drew1 | refine below_set ?_ GE111.out) | exact HB.out)⟩
            · rw [if_neg c39] at H
              exact absurd H (by simp)
          · replace c38 := Bool.eq_false_iff.mpr c38
            subst c38
            have H1 : (some (x5_1, 0)) = some (r1, r2) := by rw [if_neg (show ¬ (false = true) by decide)] at H; exact H
            clear H
            have H := H1
            clear H1
            simp only [Option.some.injEq, Prod.mk.injEq] at H
            obtain ⟨rfl, rfl⟩ := H
            have hcz42_0 : wr.cell? ⟨gb111, 0, none⟩ = some (.slice A0_0 l0_0.length c0_0) := (blk_cell BK111.out 0).trans rfl
            have hcz42_1 : wr.cell? ⟨gb111, 1, none⟩ = some (.bool false) := (blk_cell BK111.out 1).trans rfl
            have hfz42_0 := blk_frozen BK111.out 0
            have hfz42_1 := blk_frozen BK111.out 1
            go_wp2
            go_ret2
            exact ⟨_, by first | rfl | (simp [errW_none, errW_some] <;> rfl) | (simp [*, errW_none, errW_some] <;> rfl), by (with_reducible repeat (first | apply KL.R_alloc | apply KL.R_drewN | apply KL.R_drew)); exact HO_5.out, by repeat (first | (with_reducible first | exact HB.out | apply below_alloc | apply pw_below_drewN | apply below_drew1 | refine below_set ?_ GE111.out) | exact HB.out)⟩
  · rw [if_neg c3] at H
    have c3b0 : (t112 == 0) = false := beq_eq_false_iff_ne.mpr c3
    have c3b1 : (t112 != 0) = true := bne_iff_ne.mpr c3
    simp only [Option.some.injEq, Prod.mk.injEq] at H
    obtain ⟨rfl, rfl⟩ := H
    go_enter Tryz.func30, Tryz.ntmps30
    go_wp2_with (first | ((with_reducible refine gate_dst (N := 1) rfl ?_); refine box_event ?hg (N := 1) ?hd (cs := #[.slice A0_0 l0_0.length c0_0, .bool a0_1]) (t := 37) ?hr ?_; (case hd => rfl); (case hg => rfl); (case hr => first | (go_simp; done) | (go_simp; rfl)); intro gb111 hg w43 hbox hb; have n0_ := Aside0.mk (below_step (by repeat (first | (with_reducible first | exact HB.out | apply below_alloc | apply pw_below_drewN | apply below_drew1) | exact HB.out)) hb); have n1_ := Aside0.mk (hbox); have n2_ := Aside0.mk ((by rw [hg]; exact (below_size (by repeat (first | (with_reducible first | exact HB.out | apply below_alloc | apply pw_below_drewN | apply below_drew1) | exact HB.out))) : w.heap.size ≤ gb111)); have n3_ := Aside0.mk ((by rw [hg]; exact (below_size (by repeat (first | (with_reducible first | exact HB.out | apply below_alloc | apply pw_below_drewN | apply below_drew1) | exact HB.out))) : w.heap.size ≤ gb111)); clear HB; have HB := n0_; have BK111 := n1_; have GW111 := n2_; have GE111 := n3_; clear n0_ n1_ n2_ n3_; clear hb hbox hg; have hcz44_0 : w43.cell? ⟨gb111, 0, none⟩ = some (.slice A0_0 l0_0.length c0_0) := (blk_cell BK111.out 0).trans rfl; have hcz44_1 : w43.cell? ⟨gb111, 1, none⟩ = some (.bool a0_1) := (blk_cell BK111.out 1).trans rfl; have hfz44_0 := blk_frozen BK111.out 0; have hfz44_1 := blk_frozen BK111.out 1) | ((with_reducible refine gate_callee (f := 54) rfl ?_); refine goesL_ (some 11) rfl rfl Tryz.func54 (by kernel_rfl) rfl #[.slice A0_0 l0_0.length c0_0] rfl (by (try simp only [List.map_toArray, List.map_cons, List.map_nil]); first | done | rfl | (simp only [List.length_drop, List.length_take]; rfl)) ?_; (with_reducible refine (event_Check.calls k _ _ l0_0 t112 _ ?side1 ?side2 A2.out).mono ?_); (case side1 => repeat (first | exact (Kd.C_below HR0_0.out HB.out) | (with_reducible refine Kd.C_alloc ?_ _) | (with_reducible refine Kd.C_drewN ?_ _) | (with_reducible refine Kd.C_drew ?_))); (case side2 => exact HC0_0.out); rintro e w45 ⟨rfl, hb⟩; refine ⟨_, rfl, ?_⟩; have n0_ := Aside0.mk (blk_below (g := gb111) (o := .cells #[.slice A0_0 l0_0.length c0_0, .bool a0_1] 37 (0, 0)) (by (with_reducible repeat (first | refine blk_drewN ?_ _ | refine blk_drew ?_ | refine blk_alloc ?_ _)); exact BK111.out) hb); have n1_ := Aside0.mk (below_step (by repeat (first | (with_reducible first | exact HB.out | apply below_alloc | apply pw_below_drewN | apply below_drew1 | refine below_set ?_ GE111.out) | exact HB.out)) hb); clear BK111; clear HB; have BK111 := n0_; have HB := n1_; clear n0_ n1_; (try clear hb); (try clear hb2); (try clear hk); (try clear hi)))
    go_ret2
    exact ⟨_, by first | rfl | (simp [errW_none, errW_some] <;> rfl) | (simp [*, errW_none, errW_some] <;> rfl), .inl (by first | exact Kd.R_nil _ _ _ _ _ | exact Kd.N_nil _ _ _ _ _ | exact Kd.V_nil _ _ _ _ _ | exact Kd.Q_nil _ _ _ _ _ | exact Kd.S_nil _ _ _ _ _), by repeat (first | (with_reducible first | exact HB.out | apply below_alloc | apply pw_below_drewN | apply below_drew1 | refine below_set ?_ GE111.out) | exact HB.out)⟩

end Go.Proofs.YtbdknddgfmoipaaGreatDoor.QA
namespace Go.Proofs.YtbdknddgfmoipaaGreatDoor.QA
open Go.RowKit Go.Proofs.YtbdknddgfmoipaaGreatDoorW.PrintWords Go.Proofs.YtbdknddgfmoipaaGreatDoorW.PrintLast Go.Proofs.YtbdknddgfmoipaaGreatDoorW.PrintMore
set_option linter.unusedVariables false
set_option linter.unusedSimpArgs false
/-! ### a transcript's bytes -/
open Classical in
/-- a number's bytes -/
noncomputable def en (x : Nat) : List Int := if h : ∃ m, Va.Cnt x m then Va.enc x h.choose else []
theorem en_eq {x m : Nat} (h : Va.Cnt x m) : en x = Va.enc x m := by
  have hx : ∃ m, Va.Cnt x m := ⟨m, h⟩
  unfold en
  rw [dif_pos hx, hx.choose_spec.unique h]
theorem put_en (x : Nat) (hx : x < 2 ^ 64) {k : Nat} (hk : 12 ≤ k) : vary_Put.f k (x : Int) = some (en x) := by
  obtain ⟨m, hm, hp⟩ := Va.put_f x hx
  rw [hp k hk, en_eq hm]
theorem en_len (x : Nat) (hx : x < 2 ^ 64) : 1 ≤ (en x).length ∧ (en x).length ≤ 10 := by
  obtain ⟨m, hm⟩ := Va.Cnt.exists x hx
  rw [en_eq hm, Va.enc_length]
  exact ⟨hm.1, hm.2.1⟩
theorem en_rng (x : Nat) : ∀ b ∈ en x, 0 ≤ b ∧ b < 256 := by
  intro b hb
  unfold en at hb
  split at hb
  · unfold Va.enc at hb
    obtain ⟨i, _, rfl⟩ := List.mem_map.1 hb
    exact Va.byt_range _ _ _
  · cases hb
def I64 (x : Int) : Prop := -9223372036854775808 ≤ x ∧ x ≤ 9223372036854775807
theorem wrap_i64 (x : Int) : I64 (wrap64 x) := by unfold I64 wrap64; omega
def zg (x : Int) : Nat := (if 0 ≤ x then 2 * x else -2 * x - 1).toNat
def ug (u : Nat) : Int := if (u : Int) % 2 = 0 then (u : Int) / 2 else -((u : Int) / 2) - 1
theorem zg_lt {x : Int} (h : I64 x) : zg x < 2 ^ 64 := by unfold zg; unfold I64 at h; split <;> omega
theorem zig_zg {x : Int} (h : I64 x) : vary_Zig.f x = some ((zg x : Nat) : Int) := by
  rw [Va.zig_spec x h.1 h.2]; unfold zg; congr 1; split <;> omega
theorem zag_ug {u : Nat} (h : u < 2 ^ 64) : vary_Zag.f (u : Int) = some (ug u) := by
  rw [Va.zag_spec _ (by omega) (by omega)]; rfl
theorem ug_i64 {u : Nat} (h : u < 2 ^ 64) : I64 (ug u) := by unfold I64 ug; split <;> omega
theorem ug_zg (x : Int) : ug (zg x) = x := by
  unfold ug zg
  by_cases h : 0 ≤ x
  · rw [if_pos h, if_pos (by omega)]; omega
  · rw [if_neg h, if_neg (by omega)]; omega
theorem zg_ug (u : Nat) : zg (ug u) = u := by
  unfold zg ug
  by_cases h : (u : Int) % 2 = 0
  · rw [if_pos h, if_pos (by omega)]; omega
  · rw [if_neg h, if_neg (by omega)]; omega
/-- an event's bytes behind the time `last` -/
noncomputable def evb (last : Int) (e : S42) : List Int := (1 + e.f0) :: (en (zg (wrap64 (e.f1 - last))) ++ (en e.f2.length ++ e.f2))
noncomputable def evs : Int → List S42 → List Int
  | _, [] => []
  | last, e :: l => evb last e ++ evs e.f1 l
def fin (b : Bool) : List Int := if b = true then [3] else []
noncomputable def trn (l : List S42) (b : Bool) : List Int := [67, 85, 69, 49] ++ (evs 0 l ++ fin b)
/-- an event that may be told -/
def Ok1 (x : S42) : Prop := (x.f0 = 0 ∨ x.f0 = 1) ∧ x.f2.length ≤ 65536
theorem chk_zero (l : List S42) : ∀ a : Nat, a ≤ 262144 → (chk l a = 0 ↔ (∀ x ∈ l, Ok1 x) ∧ a + tot l ≤ 262144) := by
  induction l with
  | nil => intro a ha; simp [chk, tot, ha]
  | cons x r ih =>
    intro a ha
    rw [chk, tot_cons]
    by_cases h : x.f0 ≠ 0 ∧ x.f0 ≠ 1
    · rw [if_pos h]
      refine ⟨fun h2 => absurd h2 (by decide), fun h2 => ?_⟩
      have := (h2.1 x (List.mem_cons_self ..)).1
      omega
    · rw [if_neg h]
      by_cases h2 : 65536 < x.f2.length ∨ 262144 < a + x.f2.length
      · rw [if_pos h2]
        refine ⟨fun h3 => absurd h3 (by decide), fun h3 => ?_⟩
        have := (h3.1 x (List.mem_cons_self ..)).2
        have := h3.2
        omega
      · rw [if_neg h2, ih _ (by omega)]
        constructor
        · rintro ⟨h3, h4⟩
          refine ⟨fun y hy => ?_, by omega⟩
          rcases List.mem_cons.1 hy with rfl | hy
          · exact ⟨by omega, by omega⟩
          · exact h3 y hy
        · rintro ⟨h3, h4⟩
          exact ⟨fun y hy => h3 y (List.mem_cons_of_mem _ hy), by omega⟩
/-- what Check says -/
def chkV (l : List S42) : Int := if 4096 < l.length then 10 else chk l 0
/-- events that may be told -/
def Good (l : List S42) : Prop := l.length ≤ 4096 ∧ (∀ x ∈ l, Ok1 x) ∧ tot l ≤ 262144
theorem chkV_zero (l : List S42) : chkV l = 0 ↔ Good l := by
  unfold chkV Good
  by_cases h : 4096 < l.length
  · rw [if_pos h]; exact ⟨fun h2 => absurd h2 (by decide), fun h2 => by omega⟩
  · rw [if_neg h, chk_zero l 0 (by omega)]
    constructor
    · rintro ⟨h1, h2⟩; exact ⟨by omega, h1, by omega⟩
    · rintro ⟨_, h1, h2⟩; exact ⟨h1, by omega⟩
theorem evb_len (last : Int) (e : S42) (h : e.f2.length ≤ 65536) : 3 ≤ (evb last e).length ∧ (evb last e).length ≤ 21 + e.f2.length := by
  unfold evb
  have h1 := en_len _ (zg_lt (wrap_i64 (e.f1 - last)))
  have h2 := en_len e.f2.length (by omega)
  simp only [List.length_cons, List.length_append]
  omega
theorem evs_len (l : List S42) : ∀ last, (∀ x ∈ l, Ok1 x) → (evs last l).length ≤ 21 * l.length + tot l := by
  induction l with
  | nil => intro last _; simp [evs, tot]
  | cons e r ih =>
    intro last h
    have h1 := evb_len last e (h e (List.mem_cons_self ..)).2
    have h2 := ih e.f1 (fun x hx => h x (List.mem_cons_of_mem _ hx))
    rw [evs, tot_cons, List.length_append, List.length_cons]
    omega
theorem trn_len {l : List S42} (h : Good l) (b : Bool) : 4 ≤ (trn l b).length ∧ (trn l b).length ≤ 1048576 := by
  have := evs_len l 0 h.2.1
  have h1 := h.1
  have h2 := h.2.2
  unfold trn fin
  simp only [List.length_append, List.length_cons, List.length_nil]
  split <;> simp <;> omega
theorem wtag {d : Int} (h : d = 0 ∨ d = 1) : (wrap64 (1 + d)) % 256 = 1 + d := by unfold wrap64; omega
theorem wrapN (n : Nat) (h : n < 2 ^ 63) : IntKind.u64.wrap ((n : Nat) : Int) = (n : Int) := by rw [Va.wrapU64]; omega
theorem enc_l0 (l : List S42) (b : Bool) (h : ∀ x ∈ l, Ok1 x) (hl : l.length ≤ 4096) (d : Nat) : ∀ (i k : Nat) (out : List Int) (last : Int), i + d = l.length → d + 12 < k → out.length + 21 * d + tot (l.drop i) ≤ 1073741824 →
    trans_Encode.l0 k out last l (l.length : Int) (i : Int) l b = some (out ++ (evs last (l.drop i) ++ fin b), 0) := by
  induction d with
  | zero =>
    intro i k out last hi hk ht
    obtain ⟨k, rfl⟩ : ∃ m, k = m + 1 := ⟨k - 1, by omega⟩
    rw [trans_Encode.l0, if_neg (by omega), List.drop_of_length_le (by omega)]
    unfold fin
    cases b
    · simp [evs]
    · rw [if_pos rfl, if_pos (by omega)]; simp [evs]
  | succ d ih =>
    intro i k out last hi hk ht
    obtain ⟨k, rfl⟩ : ∃ m, k = m + 1 := ⟨k - 1, by omega⟩
    have hlt : i < l.length := by omega
    have hx := h l[i] (List.getElem_mem hlt)
    have hn := hx.2
    have hz := wrap_i64 (l[i].f1 - last)
    have hz1 := zg_lt hz
    have hw1 : wrap64 ((i : Int) + 1) = ((i + 1 : Nat) : Int) := by unfold wrap64; omega
    have e1 := en_len _ hz1
    have e2 := en_len l[i].f2.length (by omega)
    rw [List.drop_eq_getElem_cons hlt, tot_cons] at ht
    rw [trans_Encode.l0, if_pos (by omega), if_pos (by omega), if_pos (by omega), rdT l i hlt, if_pos (by omega), hw1, List.drop_eq_getElem_cons hlt, evs]
    simp only [Option.bind_some, clock_Delta.f, zig_zg hz, put_en _ hz1 (show 12 ≤ k by omega), wtag hx.1, wrapN _ (show l[i].f2.length < 2 ^ 63 by omega), put_en _ (show l[i].f2.length < 2 ^ 64 by omega) (show 12 ≤ k by omega)]
    rw [if_pos (by simp only [List.length_append, List.length_cons, List.length_nil]; omega), if_pos (by simp only [List.length_append, List.length_cons, List.length_nil]; omega), if_pos (by simp only [List.length_append, List.length_cons, List.length_nil]; omega)]
    rw [ih (i + 1) k _ _ (by omega) (by omega) (by simp only [List.length_append, List.length_cons, List.length_nil]; omega)]
    unfold evb
    simp
theorem enc_f (l : List S42) (hs : small l) (b : Bool) {k : Nat} (hk : 2 * l.length + 20 ≤ k) : trans_Encode.f k l b = some (if chkV l = 0 then (trn l b, 0) else ([], chkV l)) := by
  have hc : event_Check.f k l = some (chkV l) := check_f l hs (by omega)
  unfold trans_Encode.f
  rw [hc]
  simp only [Option.bind_some]
  by_cases h : chkV l = 0
  · rw [if_pos h, if_pos h]
    have g := (chkV_zero l).1 h
    have := enc_l0 l b g.2.1 g.1 l.length 0 k [67, 85, 69, 49] 0 (by omega) (by omega) (by have := g.1; have := g.2.2; simp; omega)
    exact this
  · rw [if_neg h, if_neg h]
end Go.Proofs.YtbdknddgfmoipaaGreatDoor.QA
-- Written for this claim by a program of this session's, out of Lean's own print of the program; Lean checks it.
namespace Go.Proofs.YtbdknddgfmoipaaGreatDoor.QA
open Go.RowKit Go.Proofs.YtbdknddgfmoipaaGreatDoorW.PrintWords Go.Proofs.YtbdknddgfmoipaaGreatDoorW.PrintLast Go.Proofs.YtbdknddgfmoipaaGreatDoorW.PrintMore
attribute [local go_sem] max2_int min2_int max_two min_two max_three min_three max_four min_four   -- for this text's walks alone
set_option linter.unusedVariables false
set_option linter.unusedSimpArgs false

/-! ### trans_one: function 32 -/
def trans_one.f (k : Nat) (l0 : List Int) (a1 : Int) (a2 : Int) (a3 : Int) : Option (Int × Int × List Int × Int × Int) := (vary_Get.f k l0 a1).bind fun bt143 => (if bt143.2.2 = 0 then ((vary_Get.f k l0 bt143.2.1).bind fun bt146 => (if bt146.2.2 = 0 then (if bt146.1 > (IntKind.u64.wrap (mn a3 65536)) then (some (0, 0, ([] : List Int), bt143.2.1, 6)) else (if (wrap64 (bt146.1)) > (wrap64 ((l0.length : Int) - bt146.2.1)) then (some (0, 0, ([] : List Int), (l0.length : Int), 5)) else ((vary_Zag.f bt143.1).bind fun t149 => ((clock_Add.f a2 t149).bind fun t150 => (if 0 ≤ bt146.2.1 then (if bt146.2.1 ≤ (wrap64 (bt146.2.1 + (wrap64 (bt146.1)))) then (if (wrap64 (bt146.2.1 + (wrap64 (bt146.1)))) ≤ (l0.length : Int) then ((bytes_Clone.f k ((l0.take ((wrap64 (bt146.2.1 + (wrap64 (bt146.1)))) : Int).toNat).drop (bt146.2.1 : Int).toNat)).bind fun t155 => (some (0, t150, t155, wrap64 (bt146.2.1 + (wrap64 (bt146.1))), 0))) else (none)) else (none)) else (none)))))) else (some (0, 0, ([] : List Int), bt143.2.1, bt146.2.2)))) else (some (0, 0, ([] : List Int), a1, bt143.2.2)))
theorem trans_one.mono : ∀ a0 a1 a2 a3 k, LeO (trans_one.f k a0 a1 a2 a3) (trans_one.f (k + 1) a0 a1 a2 a3) := by
  intro a0 a1 a2 a3 k
  unfold trans_one.f
  repeat' first
      | (with_reducible exact bytes_Clone.mono _ _)
      | (with_reducible exact vary_Get.mono _ _ _)
      | (with_reducible exact LeO.refl _)
      | (with_reducible exact LeO.none _)
      | (with_reducible refine LeO.ite ?_ ?_)
      | (with_reducible refine LeO.bind ?_ (fun _ => ?_))
      | exact bytes_Clone.mono _ _
      | exact vary_Get.mono _ _ _
      | exact LeO.none _
      | refine LeO.ite ?_ ?_
      | refine LeO.bind ?_ (fun _ => ?_)
def trans_one.T12 : Bool × List (List Nat × List Nat) := (true, [([], []), ([], []), ([1], [1]), ([0, 2, 2], [0, 2]), ([], []), ([], []), ([], []), ([4, 5, 6], [4, 5, 6]), ([7, 3], [7]), ([3, 8], [3, 8]), ([], []), ([9, 8, 0, 1, 2, 3, 4, 5, 6, 7, 8, 9], [9]), ([10, 11, 0, 1, 2, 3, 4, 5, 6, 7, 8, 9, 10, 11], [10]), ([12, 0, 1, 2, 3, 4, 5, 6, 7, 8, 9, 10, 11, 12], [])])
def trans_one.B12 : List Nat := [0, 0, 2, 7, 0, 0, 0, 112, 255, 511, 0, 1023, 4095, 8191]
theorem trans_one.tab12 : rtab .any (opsOf Tryz.f32 12) = trans_one.T12 := by kernel_rfl
theorem trans_one.bits12 : waitsOk trans_one.T12.2 trans_one.B12 = true := by kernel_rfl
set_option maxHeartbeats 8000000 in
set_option maxRecDepth 100000 in
theorem trans_one.calls (k : Nat) (A0 : Option Addr) (c0 : Nat) (l0 : List Int) (a1 : Int) (a2 : Int) (a3 : Int) (r1 : Int) (r2 : Int) (r3 : List Int) (r4 : Int) (r5 : Int) (w : World) (hr0 : Kd.C (Kd.int .u8) w A0 l0.length l0) (hc0 : l0.length ≤ c0) (h : trans_one.f k l0 a1 a2 a3 = some (r1, r2, r3, r4, r5)) :
    Calls Tryz.prog 32 #[.slice A0 l0.length c0, .int .i64 a1, .int .i64 a2, .int .i64 a3] w fun e w' => ∃ v2_ : Value, e = .returned (.tuple #[.agg #[.int .i64 r1, .int .i64 r2, v2_], .int .i64 r4, .int .i64 r5]) ∧ Kd.R (Kd.int .u8) 5 w' w.heap.size (fun _ => True) v2_ r3 ∧ Below w.heap.size w w' := by
  have hu42 := Tryz.underlying42
  have HR0 := Aside0.mk hr0
  have HC0 := Aside0.mk hc0
  clear hr0 hc0
  have HB := Aside0.mk (Below.refl w.heap.size w)
  have H : ((vary_Get.f k l0 a1).bind fun bt143 => (if bt143.2.2 = 0 then ((vary_Get.f k l0 bt143.2.1).bind fun bt146 => (if bt146.2.2 = 0 then (if bt146.1 > (IntKind.u64.wrap (mn a3 65536)) then (some (0, 0, ([] : List Int), bt143.2.1, 6)) else (if (wrap64 (bt146.1)) > (wrap64 ((l0.length : Int) - bt146.2.1)) then (some (0, 0, ([] : List Int), (l0.length : Int), 5)) else ((vary_Zag.f bt143.1).bind fun t149 => ((clock_Add.f a2 t149).bind fun t150 => (if 0 ≤ bt146.2.1 then (if bt146.2.1 ≤ (wrap64 (bt146.2.1 + (wrap64 (bt146.1)))) then (if (wrap64 (bt146.2.1 + (wrap64 (bt146.1)))) ≤ (l0.length : Int) then ((bytes_Clone.f k ((l0.take ((wrap64 (bt146.2.1 + (wrap64 (bt146.1)))) : Int).toNat).drop (bt146.2.1 : Int).toNat)).bind fun t155 => (some (0, t150, t155, wrap64 (bt146.2.1 + (wrap64 (bt146.1))), 0))) else (none)) else (none)) else (none)))))) else (some (0, 0, ([] : List Int), bt143.2.1, bt146.2.2)))) else (some (0, 0, ([] : List Int), a1, bt143.2.2)))) = some (r1, r2, r3, r4, r5) := h
  clear h
  replace H := Option.bind_eq_some_iff.mp H
  obtain ⟨⟨t143, t144, t145⟩, A50, H⟩ := H
  replace H : (if t145 = 0 then ((vary_Get.f k l0 t144).bind fun bt146 => (if bt146.2.2 = 0 then (if bt146.1 > (IntKind.u64.wrap (mn a3 65536)) then (some (0, 0, ([] : List Int), t144, 6)) else (if (wrap64 (bt146.1)) > (wrap64 ((l0.length : Int) - bt146.2.1)) then (some (0, 0, ([] : List Int), (l0.length : Int), 5)) else ((vary_Zag.f t143).bind fun t149 => ((clock_Add.f a2 t149).bind fun t150 => (if 0 ≤ bt146.2.1 then (if bt146.2.1 ≤ (wrap64 (bt146.2.1 + (wrap64 (bt146.1)))) then (if (wrap64 (bt146.2.1 + (wrap64 (bt146.1)))) ≤ (l0.length : Int) then ((bytes_Clone.f k ((l0.take ((wrap64 (bt146.2.1 + (wrap64 (bt146.1)))) : Int).toNat).drop (bt146.2.1 : Int).toNat)).bind fun t155 => (some (0, t150, t155, wrap64 (bt146.2.1 + (wrap64 (bt146.1))), 0))) else (none)) else (none)) else (none)))))) else (some (0, 0, ([] : List Int), t144, bt146.2.2)))) else (some (0, 0, ([] : List Int), a1, t145))) = some (r1, r2, r3, r4, r5) := H
  have A5 := Aside0.mk A50
  clear A50
  by_cases c6 : t145 = 0
  · rw [if_pos c6] at H
    have c6b0 : (t145 == 0) = true := beq_iff_eq.mpr c6
    have c6b1 : (t145 != 0) = false := bne_eq_false_iff_eq.mpr c6
    clear c6
    replace H := Option.bind_eq_some_iff.mp H
    obtain ⟨⟨t146, t147, t148⟩, A70, H⟩ := H
    replace H : (if t148 = 0 then (if t146 > (IntKind.u64.wrap (mn a3 65536)) then (some (0, 0, ([] : List Int), t144, 6)) else (if (wrap64 (t146)) > (wrap64 ((l0.length : Int) - t147)) then (some (0, 0, ([] : List Int), (l0.length : Int), 5)) else ((vary_Zag.f t143).bind fun t149 => ((clock_Add.f a2 t149).bind fun t150 => (if 0 ≤ t147 then (if t147 ≤ (wrap64 (t147 + (wrap64 (t146)))) then (if (wrap64 (t147 + (wrap64 (t146)))) ≤ (l0.length : Int) then ((bytes_Clone.f k ((l0.take ((wrap64 (t147 + (wrap64 (t146)))) : Int).toNat).drop (t147 : Int).toNat)).bind fun t155 => (some (0, t150, t155, wrap64 (t147 + (wrap64 (t146))), 0))) else (none)) else (none)) else (none)))))) else (some (0, 0, ([] : List Int), t144, t148))) = some (r1, r2, r3, r4, r5) := H
    have A7 := Aside0.mk A70
    clear A70
    by_cases c8 : t148 = 0
    · rw [if_pos c8] at H
      have c8b0 : (t148 == 0) = true := beq_iff_eq.mpr c8
      have c8b1 : (t148 != 0) = false := bne_eq_false_iff_eq.mpr c8
      clear c8
      obtain ⟨ji9, hji9⟩ : ∃ j_ : Int, (mn a3 65536) = j_ := ⟨_, rfl⟩
      replace H : (if t146 > (IntKind.u64.wrap (ji9)) then (some (0, 0, ([] : List Int), t144, 6)) else (if (wrap64 (t146)) > (wrap64 ((l0.length : Int) - t147)) then (some (0, 0, ([] : List Int), (l0.length : Int), 5)) else ((vary_Zag.f t143).bind fun t149 => ((clock_Add.f a2 t149).bind fun t150 => (if 0 ≤ t147 then (if t147 ≤ (wrap64 (t147 + (wrap64 (t146)))) then (if (wrap64 (t147 + (wrap64 (t146)))) ≤ (l0.length : Int) then ((bytes_Clone.f k ((l0.take ((wrap64 (t147 + (wrap64 (t146)))) : Int).toNat).drop (t147 : Int).toNat)).bind fun t155 => (some (0, t150, t155, wrap64 (t147 + (wrap64 (t146))), 0))) else (none)) else (none)) else (none)))))) = some (r1, r2, r3, r4, r5) := by first | (rw [hji9] at H; exact H) | (simp only [hji9] at H ⊢; exact H)
      (try rw [hji9] at A5)
      (try rw [hji9] at A7)
      (try (have hji9h : ji9 ≤ 65536 := by (rw [← hji9]; unfold mn; (repeat' split) <;> omega)))
      (try (have hji9g : ji9 ≤ 64 := by omega))
      have hji9_ : (if 65536 < a3 then 65536 else a3) = ji9 := hji9
      by_cases c10 : t146 > (IntKind.u64.wrap (ji9))
      · rw [if_pos c10] at H
        have c10b0 : decide ((IntKind.u64.wrap (ji9)) < t146) = true := decide_eq_true c10
        clear c10
        simp only [Option.some.injEq, Prod.mk.injEq] at H
        obtain ⟨rfl, rfl, rfl, rfl, rfl⟩ := H
        go_enter Tryz.func32, Tryz.ntmps32
        go_wp2_with (first | ((with_reducible refine gate_dst (N := 8) rfl ?_); refine box_event ?hg (N := 8) ?hd (cs := #[.int .i64 0, .int .i64 0, .slice none 0 0]) (t := 42) ?hr ?_; (case hd => rfl); (case hg => rfl); (case hr => first | (go_simp; done) | (go_simp; rfl)); intro gb142 hg w11 hbox hb; have n0_ := Aside0.mk (below_step (by repeat (first | (with_reducible first | exact HB.out | apply below_alloc | apply pw_below_drewN | apply below_drew1) | exact HB.out)) hb); have n1_ := Aside0.mk (hbox); have n2_ := Aside0.mk ((by rw [hg]; exact (below_size (by repeat (first | (with_reducible first | exact HB.out | apply below_alloc | apply pw_below_drewN | apply below_drew1) | exact HB.out))) : w.heap.size ≤ gb142)); have n3_ := Aside0.mk ((by rw [hg]; exact (below_size (by repeat (first | (with_reducible first | exact HB.out | apply below_alloc | apply pw_below_drewN | apply below_drew1) | exact HB.out))) : w.heap.size ≤ gb142)); clear HB; have HB := n0_; have BK142 := n1_; have GW142 := n2_; have GE142 := n3_; clear n0_ n1_ n2_ n3_; clear hb hbox hg) | ((with_reducible refine gate_callee (f := 58) rfl ?_); refine goesL_ (some 20) rfl rfl Tryz.func58 (by kernel_rfl) rfl #[.slice A0 l0.length c0, .int .i64 a1] rfl (by (try simp only [List.map_toArray, List.map_cons, List.map_nil]); first | done | rfl | (simp only [List.length_drop, List.length_take]; rfl)) ?_; (with_reducible refine (vary_Get.calls k _ _ l0 a1 t143 t144 t145 _ ?side1 ?side2 A5.out).mono ?_); (case side1 => repeat (first | exact (Kd.C_below HR0.out HB.out) | (with_reducible refine Kd.C_alloc ?_ _) | (with_reducible refine Kd.C_drewN ?_ _) | (with_reducible refine Kd.C_drew ?_))); (case side2 => exact HC0.out); rintro e w12 ⟨rfl, hb⟩; refine ⟨_, rfl, ?_⟩; have n0_ := Aside0.mk (blk_below (g := gb142) (o := .cells #[.int .i64 0, .int .i64 0, .slice none 0 0] 42 (0, 0)) (by (with_reducible repeat (first | refine blk_drewN ?_ _ | refine blk_drew ?_ | refine blk_alloc ?_ _)); exact BK142.out) hb); have n1_ := Aside0.mk (below_step (by repeat (first | (with_reducible first | exact HB.out | apply below_alloc | apply pw_below_drewN | apply below_drew1 | refine below_set ?_ GE142.out) | exact HB.out)) hb); clear BK142; clear HB; have BK142 := n0_; have HB := n1_; clear n0_ n1_; (try clear hb); (try clear hb2); (try clear hk); (try clear hi)) | ((with_reducible refine gate_callee (f := 58) rfl ?_); refine goesL_ (some 32) rfl rfl Tryz.func58 (by kernel_rfl) rfl #[.slice A0 l0.length c0, .int .i64 t144] rfl (by (try simp only [List.map_toArray, List.map_cons, List.map_nil]); first | done | rfl | (simp only [List.length_drop, List.length_take]; rfl)) ?_; (with_reducible refine (vary_Get.calls k _ _ l0 t144 t146 t147 t148 _ ?side1 ?side2 A7.out).mono ?_); (case side1 => repeat (first | exact (Kd.C_below HR0.out HB.out) | (with_reducible refine Kd.C_alloc ?_ _) | (with_reducible refine Kd.C_drewN ?_ _) | (with_reducible refine Kd.C_drew ?_))); (case side2 => exact HC0.out); rintro e w13 ⟨rfl, hb⟩; refine ⟨_, rfl, ?_⟩; have n0_ := Aside0.mk (blk_below (g := gb142) (o := .cells #[.int .i64 0, .int .i64 0, .slice none 0 0] 42 (0, 0)) (by (with_reducible repeat (first | refine blk_drewN ?_ _ | refine blk_drew ?_ | refine blk_alloc ?_ _)); exact BK142.out) hb); have n1_ := Aside0.mk (below_step (by repeat (first | (with_reducible first | exact HB.out | apply below_alloc | apply pw_below_drewN | apply below_drew1 | refine below_set ?_ GE142.out) | exact HB.out)) hb); clear BK142; clear HB; have BK142 := n0_; have HB := n1_; clear n0_ n1_; (try clear hb); (try clear hb2); (try clear hk); (try clear hi); have hcz14_0 : w13.cell? ⟨gb142, 0, none⟩ = some (.int .i64 0) := (blk_cell BK142.out 0).trans rfl; have hcz14_1 : w13.cell? ⟨gb142, 1, none⟩ = some (.int .i64 0) := (blk_cell BK142.out 1).trans rfl; have hcz14_2 : w13.cell? ⟨gb142, 2, none⟩ = some (.slice none 0 0) := (blk_cell BK142.out 2).trans rfl; have hfz14_0 := blk_frozen BK142.out 0; have hfz14_1 := blk_frozen BK142.out 1; have hfz14_2 := blk_frozen BK142.out 2))
        refine bodyPost_ret (results_ctt rfl _ _ gb142 42 #[.int .i64 0, .int .i64 0, .slice none 0 0] (0, 0) _ rfl (by (with_reducible repeat (first | refine blk_drewN ?_ _ | refine blk_drew ?_ | refine blk_alloc ?_ _)); refine blk_put (cs := #[.int .i64 0, .int .i64 0, .slice none 0 0]) ?_ 2 _ rfl; (with_reducible repeat (first | refine blk_drewN ?_ _ | refine blk_drew ?_ | refine blk_alloc ?_ _)); refine blk_put (cs := #[.int .i64 0, .int .i64 0, .slice none 0 0]) ?_ 1 _ rfl; (with_reducible repeat (first | refine blk_drewN ?_ _ | refine blk_drew ?_ | refine blk_alloc ?_ _)); refine blk_put (cs := #[.int .i64 0, .int .i64 0, .slice none 0 0]) ?_ 0 _ rfl; (with_reducible repeat (first | refine blk_drewN ?_ _ | refine blk_drew ?_ | refine blk_alloc ?_ _)); exact BK142.out) Tryz.underlying42 rfl (by kernel_rfl)) rfl ?_
        exact ⟨_, by first | rfl | (simp [errW_none, errW_some] <;> rfl) | (simp only [← hji9]; first | rfl | (simp [errW_none, errW_some] <;> rfl)) | (simp [*, errW_none, errW_some] <;> rfl), by first | exact Kd.R_nil _ _ _ _ _ | exact Kd.N_nil _ _ _ _ _ | exact Kd.V_nil _ _ _ _ _ | exact Kd.Q_nil _ _ _ _ _ | exact Kd.S_nil _ _ _ _ _, by repeat (first | (with_reducible first | exact HB.out | apply below_alloc | apply pw_below_drewN | apply below_drew1 | refine below_set ?_ GE142.out) | exact HB.out)⟩
      · rw [if_neg c10] at H
        have c10b0 : decide ((IntKind.u64.wrap (ji9)) < t146) = false := decide_eq_false c10
        clear c10
        by_cases c15 : (wrap64 (t146)) > (wrap64 ((l0.length : Int) - t147))
        · rw [if_pos c15] at H
          have c15b0 : decide ((wrap64 ((l0.length : Int) - t147)) < (wrap64 (t146))) = true := decide_eq_true c15
          clear c15
          simp only [Option.some.injEq, Prod.mk.injEq] at H
          obtain ⟨rfl, rfl, rfl, rfl, rfl⟩ := H
          go_enter Tryz.func32, Tryz.ntmps32
          (try (have iw20 : IntKind.i64.wrap ((l0.length : Int) - t147) = wrap64 ((l0.length : Int) - t147) := i64_w _))
          (try (have iw21 : IntKind.i64.wrap (t146) = wrap64 (t146) := i64_w _))
          go_wp2_with (first | ((with_reducible refine gate_dst (N := 8) rfl ?_); refine box_event ?hg (N := 8) ?hd (cs := #[.int .i64 0, .int .i64 0, .slice none 0 0]) (t := 42) ?hr ?_; (case hd => rfl); (case hg => rfl); (case hr => first | (go_simp; done) | (go_simp; rfl)); intro gb142 hg w16 hbox hb; have n0_ := Aside0.mk (below_step (by repeat (first | (with_reducible first | exact HB.out | apply below_alloc | apply pw_below_drewN | apply below_drew1) | exact HB.out)) hb); have n1_ := Aside0.mk (hbox); have n2_ := Aside0.mk ((by rw [hg]; exact (below_size (by repeat (first | (with_reducible first | exact HB.out | apply below_alloc | apply pw_below_drewN | apply below_drew1) | exact HB.out))) : w.heap.size ≤ gb142)); have n3_ := Aside0.mk ((by rw [hg]; exact (below_size (by repeat (first | (with_reducible first | exact HB.out | apply below_alloc | apply pw_below_drewN | apply below_drew1) | exact HB.out))) : w.heap.size ≤ gb142)); clear HB; have HB := n0_; have BK142 := n1_; have GW142 := n2_; have GE142 := n3_; clear n0_ n1_ n2_ n3_; clear hb hbox hg) | ((with_reducible refine gate_callee (f := 58) rfl ?_); refine goesL_ (some 20) rfl rfl Tryz.func58 (by kernel_rfl) rfl #[.slice A0 l0.length c0, .int .i64 a1] rfl (by (try simp only [List.map_toArray, List.map_cons, List.map_nil]); first | done | rfl | (simp only [List.length_drop, List.length_take]; rfl)) ?_; (with_reducible refine (vary_Get.calls k _ _ l0 a1 t143 t144 t145 _ ?side1 ?side2 A5.out).mono ?_); (case side1 => repeat (first | exact (Kd.C_below HR0.out HB.out) | (with_reducible refine Kd.C_alloc ?_ _) | (with_reducible refine Kd.C_drewN ?_ _) | (with_reducible refine Kd.C_drew ?_))); (case side2 => exact HC0.out); rintro e w17 ⟨rfl, hb⟩; refine ⟨_, rfl, ?_⟩; have n0_ := Aside0.mk (blk_below (g := gb142) (o := .cells #[.int .i64 0, .int .i64 0, .slice none 0 0] 42 (0, 0)) (by (with_reducible repeat (first | refine blk_drewN ?_ _ | refine blk_drew ?_ | refine blk_alloc ?_ _)); exact BK142.out) hb); have n1_ := Aside0.mk (below_step (by repeat (first | (with_reducible first | exact HB.out | apply below_alloc | apply pw_below_drewN | apply below_drew1 | refine below_set ?_ GE142.out) | exact HB.out)) hb); clear BK142; clear HB; have BK142 := n0_; have HB := n1_; clear n0_ n1_; (try clear hb); (try clear hb2); (try clear hk); (try clear hi)) | ((with_reducible refine gate_callee (f := 58) rfl ?_); refine goesL_ (some 32) rfl rfl Tryz.func58 (by kernel_rfl) rfl #[.slice A0 l0.length c0, .int .i64 t144] rfl (by (try simp only [List.map_toArray, List.map_cons, List.map_nil]); first | done | rfl | (simp only [List.length_drop, List.length_take]; rfl)) ?_; (with_reducible refine (vary_Get.calls k _ _ l0 t144 t146 t147 t148 _ ?side1 ?side2 A7.out).mono ?_); (case side1 => repeat (first | exact (Kd.C_below HR0.out HB.out) | (with_reducible refine Kd.C_alloc ?_ _) | (with_reducible refine Kd.C_drewN ?_ _) | (with_reducible refine Kd.C_drew ?_))); (case side2 => exact HC0.out); rintro e w18 ⟨rfl, hb⟩; refine ⟨_, rfl, ?_⟩; have n0_ := Aside0.mk (blk_below (g := gb142) (o := .cells #[.int .i64 0, .int .i64 0, .slice none 0 0] 42 (0, 0)) (by (with_reducible repeat (first | refine blk_drewN ?_ _ | refine blk_drew ?_ | refine blk_alloc ?_ _)); exact BK142.out) hb); have n1_ := Aside0.mk (below_step (by repeat (first | (with_reducible first | exact HB.out | apply below_alloc | apply pw_below_drewN | apply below_drew1 | refine below_set ?_ GE142.out) | exact HB.out)) hb); clear BK142; clear HB; have BK142 := n0_; have HB := n1_; clear n0_ n1_; (try clear hb); (try clear hb2); (try clear hk); (try clear hi); have hcz19_0 : w18.cell? ⟨gb142, 0, none⟩ = some (.int .i64 0) := (blk_cell BK142.out 0).trans rfl; have hcz19_1 : w18.cell? ⟨gb142, 1, none⟩ = some (.int .i64 0) := (blk_cell BK142.out 1).trans rfl; have hcz19_2 : w18.cell? ⟨gb142, 2, none⟩ = some (.slice none 0 0) := (blk_cell BK142.out 2).trans rfl; have hfz19_0 := blk_frozen BK142.out 0; have hfz19_1 := blk_frozen BK142.out 1; have hfz19_2 := blk_frozen BK142.out 2))
          refine bodyPost_ret (results_ctt rfl _ _ gb142 42 #[.int .i64 0, .int .i64 0, .slice none 0 0] (0, 0) _ rfl (by (with_reducible repeat (first | refine blk_drewN ?_ _ | refine blk_drew ?_ | refine blk_alloc ?_ _)); refine blk_put (cs := #[.int .i64 0, .int .i64 0, .slice none 0 0]) ?_ 2 _ rfl; (with_reducible repeat (first | refine blk_drewN ?_ _ | refine blk_drew ?_ | refine blk_alloc ?_ _)); refine blk_put (cs := #[.int .i64 0, .int .i64 0, .slice none 0 0]) ?_ 1 _ rfl; (with_reducible repeat (first | refine blk_drewN ?_ _ | refine blk_drew ?_ | refine blk_alloc ?_ _)); refine blk_put (cs := #[.int .i64 0, .int .i64 0, .slice none 0 0]) ?_ 0 _ rfl; (with_reducible repeat (first | refine blk_drewN ?_ _ | refine blk_drew ?_ | refine blk_alloc ?_ _)); exact BK142.out) Tryz.underlying42 rfl (by kernel_rfl)) rfl ?_
          exact ⟨_, by first | rfl | (simp [errW_none, errW_some] <;> rfl) | (simp only [← hji9]; first | rfl | (simp [errW_none, errW_some] <;> rfl)) | (simp [*, errW_none, errW_some] <;> rfl), by first | exact Kd.R_nil _ _ _ _ _ | exact Kd.N_nil _ _ _ _ _ | exact Kd.V_nil _ _ _ _ _ | exact Kd.Q_nil _ _ _ _ _ | exact Kd.S_nil _ _ _ _ _, by repeat (first | (with_reducible first | exact HB.out | apply below_alloc | apply pw_below_drewN | apply below_drew1 | refine below_set ?_ GE142.out) | exact HB.out)⟩
        · rw [if_neg c15] at H
          have c15b0 : decide ((wrap64 ((l0.length : Int) - t147)) < (wrap64 (t146))) = false := decide_eq_false c15
          clear c15
          replace H := Option.bind_eq_some_iff.mp H
          obtain ⟨t149, A220, H⟩ := H
          replace H : ((clock_Add.f a2 t149).bind fun t150 => (if 0 ≤ t147 then (if t147 ≤ (wrap64 (t147 + (wrap64 (t146)))) then (if (wrap64 (t147 + (wrap64 (t146)))) ≤ (l0.length : Int) then ((bytes_Clone.f k ((l0.take ((wrap64 (t147 + (wrap64 (t146)))) : Int).toNat).drop (t147 : Int).toNat)).bind fun t155 => (some (0, t150, t155, wrap64 (t147 + (wrap64 (t146))), 0))) else (none)) else (none)) else (none))) = some (r1, r2, r3, r4, r5) := H
          have A22 := Aside0.mk A220
          clear A220
          replace H := Option.bind_eq_some_iff.mp H
          obtain ⟨t150, A230, H⟩ := H
          replace H : (if 0 ≤ t147 then (if t147 ≤ (wrap64 (t147 + (wrap64 (t146)))) then (if (wrap64 (t147 + (wrap64 (t146)))) ≤ (l0.length : Int) then ((bytes_Clone.f k ((l0.take ((wrap64 (t147 + (wrap64 (t146)))) : Int).toNat).drop (t147 : Int).toNat)).bind fun t155 => (some (0, t150, t155, wrap64 (t147 + (wrap64 (t146))), 0))) else (none)) else (none)) else (none)) = some (r1, r2, r3, r4, r5) := H
          have A23 := Aside0.mk A230
          clear A230
          by_cases c24 : 0 ≤ t147
          · rw [if_pos c24] at H
            have c24b0 := eq_true c24
            have c24b1 : decide (0 ≤ t147) = true := decide_eq_true c24
            clear c24
            by_cases c25 : t147 ≤ (wrap64 (t147 + (wrap64 (t146))))
            · rw [if_pos c25] at H
              have c25b0 := eq_true c25
              have c25b1 : decide (t147 ≤ (wrap64 (t147 + (wrap64 (t146))))) = true := decide_eq_true c25
              by_cases c26 : (wrap64 (t147 + (wrap64 (t146)))) ≤ (l0.length : Int)
              · rw [if_pos c26] at H
                have c26b0 := eq_true c26
                have c26b1 : decide ((wrap64 (t147 + (wrap64 (t146)))) ≤ (l0.length : Int)) = true := decide_eq_true c26
                obtain ⟨y151, hy151⟩ : ∃ y_ : List Int, y_ = ((l0.take ((wrap64 (t147 + (wrap64 (t146)))) : Int).toNat).drop (t147 : Int).toNat) := ⟨_, rfl⟩
                replace H : ((bytes_Clone.f k y151).bind fun t155 => (some (0, t150, t155, wrap64 (t147 + (wrap64 (t146))), 0))) = some (r1, r2, r3, r4, r5) := by first | (rw [hy151]; with_reducible exact H) | (have H2_ := (Option.bind_some _ _).symm.trans H; rw [hy151]; with_reducible exact H2_) | (have H2_ := (Option.bind_some _ _).symm.trans H; with_reducible exact H2_) | with_reducible exact H | (rw [hy151]; exact H) | exact H
                have Ny151 := Aside0.mk hy151
                clear hy151
                replace H := Option.bind_eq_some_iff.mp H
                obtain ⟨t155, A270, H⟩ := H
                replace H : (some (0, t150, t155, wrap64 (t147 + (wrap64 (t146))), 0)) = some (r1, r2, r3, r4, r5) := H
                have A27 := Aside0.mk A270
                clear A270
                simp only [Option.some.injEq, Prod.mk.injEq] at H
                obtain ⟨rfl, rfl, rfl, rfl, rfl⟩ := H
                go_enter Tryz.func32, Tryz.ntmps32
                (try (have iw40 : IntKind.i64.wrap ((l0.length : Int) - t147) = wrap64 ((l0.length : Int) - t147) := i64_w _))
                (try (have iw41 : IntKind.i64.wrap (t146) = wrap64 (t146) := i64_w _))
                (try (have iw42 : IntKind.i64.wrap (t147 + (wrap64 (t146))) = wrap64 (t147 + (wrap64 (t146))) := i64_w _))
                try go_wp2_with (first | ((with_reducible refine gate_dst (N := 8) rfl ?_); refine box_event ?hg (N := 8) ?hd (cs := #[.int .i64 0, .int .i64 0, .slice none 0 0]) (t := 42) ?hr ?_; (case hd => rfl); (case hg => rfl); (case hr => first | (go_simp; done) | (go_simp; rfl)); intro gb142 hg w28 hbox hb; have n0_ := Aside0.mk (below_step (by repeat (first | (with_reducible first | exact HB.out | apply below_alloc | apply pw_below_drewN | apply below_drew1) | exact HB.out)) hb); have n1_ := Aside0.mk (hbox); have n2_ := Aside0.mk ((by rw [hg]; exact (below_size (by repeat (first | (with_reducible first | exact HB.out | apply below_alloc | apply pw_below_drewN | apply below_drew1) | exact HB.out))) : w.heap.size ≤ gb142)); have n3_ := Aside0.mk ((by rw [hg]; exact (below_size (by repeat (first | (with_reducible first | exact HB.out | apply below_alloc | apply pw_below_drewN | apply below_drew1) | exact HB.out))) : w.heap.size ≤ gb142)); clear HB; have HB := n0_; have BK142 := n1_; have GW142 := n2_; have GE142 := n3_; clear n0_ n1_ n2_ n3_; clear hb hbox hg) | ((with_reducible refine gate_callee (f := 58) rfl ?_); refine goesL_ (some 20) rfl rfl Tryz.func58 (by kernel_rfl) rfl #[.slice A0 l0.length c0, .int .i64 a1] rfl (by (try simp only [List.map_toArray, List.map_cons, List.map_nil]); first | done | rfl | (simp only [List.length_drop, List.length_take]; rfl)) ?_; (with_reducible refine (vary_Get.calls k _ _ l0 a1 t143 t144 t145 _ ?side1 ?side2 A5.out).mono ?_); (case side1 => repeat (first | exact (Kd.C_below HR0.out HB.out) | (with_reducible refine Kd.C_alloc ?_ _) | (with_reducible refine Kd.C_drewN ?_ _) | (with_reducible refine Kd.C_drew ?_))); (case side2 => exact HC0.out); rintro e w29 ⟨rfl, hb⟩; refine ⟨_, rfl, ?_⟩; have n0_ := Aside0.mk (blk_below (g := gb142) (o := .cells #[.int .i64 0, .int .i64 0, .slice none 0 0] 42 (0, 0)) (by (with_reducible repeat (first | refine blk_drewN ?_ _ | refine blk_drew ?_ | refine blk_alloc ?_ _)); exact BK142.out) hb); have n1_ := Aside0.mk (below_step (by repeat (first | (with_reducible first | exact HB.out | apply below_alloc | apply pw_below_drewN | apply below_drew1 | refine below_set ?_ GE142.out) | exact HB.out)) hb); clear BK142; clear HB; have BK142 := n0_; have HB := n1_; clear n0_ n1_; (try clear hb); (try clear hb2); (try clear hk); (try clear hi)) | ((with_reducible refine gate_callee (f := 58) rfl ?_); refine goesL_ (some 32) rfl rfl Tryz.func58 (by kernel_rfl) rfl #[.slice A0 l0.length c0, .int .i64 t144] rfl (by (try simp only [List.map_toArray, List.map_cons, List.map_nil]); first | done | rfl | (simp only [List.length_drop, List.length_take]; rfl)) ?_; (with_reducible refine (vary_Get.calls k _ _ l0 t144 t146 t147 t148 _ ?side1 ?side2 A7.out).mono ?_); (case side1 => repeat (first | exact (Kd.C_below HR0.out HB.out) | (with_reducible refine Kd.C_alloc ?_ _) | (with_reducible refine Kd.C_drewN ?_ _) | (with_reducible refine Kd.C_drew ?_))); (case side2 => exact HC0.out); rintro e w30 ⟨rfl, hb⟩; refine ⟨_, rfl, ?_⟩; have n0_ := Aside0.mk (blk_below (g := gb142) (o := .cells #[.int .i64 0, .int .i64 0, .slice none 0 0] 42 (0, 0)) (by (with_reducible repeat (first | refine blk_drewN ?_ _ | refine blk_drew ?_ | refine blk_alloc ?_ _)); exact BK142.out) hb); have n1_ := Aside0.mk (below_step (by repeat (first | (with_reducible first | exact HB.out | apply below_alloc | apply pw_below_drewN | apply below_drew1 | refine below_set ?_ GE142.out) | exact HB.out)) hb); clear BK142; clear HB; have BK142 := n0_; have HB := n1_; clear n0_ n1_; (try clear hb); (try clear hb2); (try clear hk); (try clear hi)))
                have n0_ := Aside0.mk (blk_drew BK142.out)
                have n1_ := Aside0.mk (below_drew1 HB.out)
                clear BK142
                clear HB
                have BK142 := n0_
                have HB := n1_
                clear n0_ n1_
                have q32 : ((wrap64 (t147 + (wrap64 (t146)))) : Int) ≤ ((l0.length : Int) : Int) := of_decide_eq_true (by first | (with_reducible assumption) | assumption)
                obtain ⟨i032, hi032, _, hsz32, _⟩ := info_parts info5
                have hroom32 : l0.length ≤ c0 := HC0.out
                have hC32 : Kd.C (Kd.int .u8) _ A0 l0.length l0 := HR0.out
                have ql32 : (t147 : Int) ≤ ((wrap64 (t147 + (wrap64 (t146)))) : Int) := of_decide_eq_true (by first | (with_reducible assumption) | assumption)
                have q032 : (0 : Int) ≤ (t147 : Int) := of_decide_eq_true (by first | (with_reducible assumption) | assumption)
                have hcut32 := cut_mid (P := Tryz.prog) 25 5 .i64 .i64 Tryz.underlying25 hi032 1 hsz32 A0 l0.length c0 t147 (wrap64 (t147 + (wrap64 (t146)))) q032 ql32 q32 hroom32
                have hr32 := Kd.C_mid (lo := (t147 : Int).toNat) (hi := ((wrap64 (t147 + (wrap64 (t146)))) : Int).toNat) (c := c0) hC32 (by omega) (by omega) hroom32
                obtain ⟨A32, hA32⟩ : ∃ A1, A1 = (if c0 = (t147 : Int).toNat then A0 else (A0 : Option Addr).map (·.add ((t147 : Int).toNat * 1))) := ⟨_, rfl⟩
                obtain ⟨c32, hc32⟩ : ∃ c1, c1 = c0 - (t147 : Int).toNat := ⟨_, rfl⟩
                have hy32 : y151.length = ((wrap64 (t147 + (wrap64 (t146)))) : Int).toNat - (t147 : Int).toNat := (by rw [Ny151.out, List.length_drop, List.length_take] <;> omega)
                rw [show ((l0).take ((wrap64 (t147 + (wrap64 (t146)))) : Int).toNat).drop (t147 : Int).toNat = y151 from Ny151.out.symm] at hr32
                replace hr32 : Kd.C (Kd.int .u8) _ A32 y151.length y151 := (by rw [hA32]; exact hr32)
                rw [← hy32, ← hA32, ← hc32] at hcut32
                have HR154 := Aside0.mk hr32
                have HC154 := Aside0.mk (show y151.length ≤ c32 from by rw [hy32, hc32]; exact Nat.sub_le_sub_right (Nat.le_trans (by omega) hroom32) _)
                clear hr32 hC32 hroom32 hi032 hsz32 hc32
                have KY32 := Aside0.mk hy32
                have KA32 := Aside0.mk hA32
                clear hy32 hA32
                replace q32 := eq_true q32
                refine start_ (n := 14) (S := fun w' => True) (ds := []) #[false, false, false, false, false, false, false, false, false, false, false, false, false, false] (by kernel_rfl) rfl rfl trivial (fun hHeld => ?_); refine with_tabW trans_one.tab12 trans_one.bits12 (fun HT_ HW_ => ?_)
                generalize w30.drew = w31 at BK142 HB HR154 hHeld ⊢
                refine pure_ (i := 0) (N := some 65) (v := ?_) (a' := ?_) #[true, false, false, false, false, false, false, false, false, false, false, false, false, false] rfl rfl (any_of HT_.out (by kernel_rfl)) (fun _ _ _ h => h) (Or.inl ⟨by rfl, ?_⟩) ?_ ?_
                rotate_left
                · intro w'
                  go_simp
                  with_reducible rfl
                rotate_left
                · simp only [Act.put, List.setIfInBounds_toArray, List.set_cons_zero, List.set_cons_succ, i64_w, i32_w]
                  rfl
                refine pure_ (i := 1) (N := some 66) (v := ?_) (a' := ?_) #[true, true, false, false, false, false, false, false, false, false, false, false, false, false] rfl rfl (any_of HT_.out (by kernel_rfl)) (fun _ _ _ h => h) (Or.inl ⟨by rfl, ?_⟩) ?_ ?_
                rotate_left
                · intro w'
                  go_simp
                  with_reducible rfl
                rotate_left
                · simp only [Act.put, List.setIfInBounds_toArray, List.set_cons_zero, List.set_cons_succ, i64_w, i32_w]
                  rfl
                refine pure_ (i := 4) (N := some 69) (v := ?_) (a' := ?_) #[true, true, false, false, true, false, false, false, false, false, false, false, false, false] rfl rfl (any_of HT_.out (by kernel_rfl)) (fun _ _ _ h => h) (Or.inl ⟨by rfl, ?_⟩) ?_ ?_
                rotate_left
                · intro w'
                  go_simp
                  with_reducible rfl
                rotate_left
                · simp only [Act.put, List.setIfInBounds_toArray, List.set_cons_zero, List.set_cons_succ, i64_w, i32_w]
                  rfl
                refine pure_ (i := 5) (N := some 70) (v := ?_) (a' := ?_) #[true, true, false, false, true, true, false, false, false, false, false, false, false, false] rfl rfl (any_of HT_.out (by kernel_rfl)) (fun _ _ _ h => h) (Or.inl ⟨by rfl, ?_⟩) ?_ ?_
                rotate_left
                · intro w'
                  go_simp
                  with_reducible rfl
                rotate_left
                · simp only [Act.put, List.setIfInBounds_toArray, List.set_cons_zero, List.set_cons_succ, i64_w, i32_w]
                  rfl
                refine pure_ (i := 6) (N := some 71) (v := ?_) (a' := ?_) #[true, true, false, false, true, true, true, false, false, false, false, false, false, false] rfl rfl (any_of HT_.out (by kernel_rfl)) (fun _ _ _ h => h) (Or.inl ⟨by rfl, ?_⟩) ?_ ?_
                rotate_left
                · intro w'
                  go_simp
                  with_reducible rfl
                rotate_left
                · simp only [Act.put, List.setIfInBounds_toArray, List.set_cons_zero, List.set_cons_succ, i64_w, i32_w]
                  rfl
                refine pure_ (i := 7) (N := some 72) (v := ?_) (a' := ?_) #[true, true, false, false, true, true, true, true, false, false, false, false, false, false] rfl rfl (any_of HT_.out (by kernel_rfl)) (fun _ _ _ h => h) (Or.inl ⟨by rfl, ?_⟩) ?_ ?_
                rotate_left
                · intro w'
                  go_simp
                  with_reducible rfl
                rotate_left
                · simp only [Act.put, List.setIfInBounds_toArray, List.set_cons_zero, List.set_cons_succ, i64_w, i32_w]
                  rfl
                refine pure_ (i := 10) (N := some 75) (v := ?_) (a' := ?_) #[true, true, false, false, true, true, true, true, false, false, true, false, false, false] rfl rfl (any_of HT_.out (by kernel_rfl)) (fun _ _ _ h => h) (Or.inl ⟨by rfl, ?_⟩) ?_ ?_
                rotate_left
                · intro w'
                  go_simp
                  with_reducible rfl
                rotate_left
                · simp only [Act.put, List.setIfInBounds_toArray, List.set_cons_zero, List.set_cons_succ, i64_w, i32_w]
                  rfl
                refine one_ (i := 2) (N := some 67) #[true, true, true, false, true, true, true, true, false, false, true, false, false, false] rfl rfl (one_of HT_.out (by kernel_rfl)) (by decide) (fun K hK => ?_)
                refine goes_ Tryz.func60 (by kernel_rfl) rfl #[.int .u64 t143] (by rfl) rfl rfl (by (try simp only [List.map_toArray, List.map_cons, List.map_nil]); first | done | rfl | (simp only [List.length_drop, List.length_take]; rfl)) ?_
                with_reducible refine (vary_Zag.calls t143 t149 _ A22.out).mono ?_
                rintro e w33 ⟨rfl, hb⟩
                refine ⟨_, rfl, ?_⟩
                have n0_ := Aside0.mk (blk_below (g := gb142) (o := .cells #[.int .i64 0, .int .i64 0, .slice none 0 0] 42 (0, 0)) (by (with_reducible repeat (first | refine blk_drewN ?_ _ | refine blk_drew ?_ | refine blk_alloc ?_ _)); exact BK142.out) hb)
                have n1_ := Aside0.mk (below_step (by repeat (first | (with_reducible first | exact HB.out | apply below_alloc | apply pw_below_drewN | apply below_drew1 | refine below_set ?_ GE142.out) | exact HB.out)) hb)
                clear BK142
                clear HB
                have BK142 := n0_
                have HB := n1_
                clear n0_ n1_
                (try clear hb)
                (try clear hb2)
                (try clear hk)
                (try clear hi)
                refine hK.out _ _ trivial (fun hHeld => ?_)
                clear hK K
                refine norm_ (a' := ?_) ?_ ?_
                rotate_left
                · show Act.put _ (some 67) _ = _
                  simp only [Act.put, List.setIfInBounds_toArray, List.set_cons_zero, List.set_cons_succ, i64_w, i32_w]
                  rfl
                refine one_ (i := 3) (N := some 68) #[true, true, true, true, true, true, true, true, false, false, true, false, false, false] rfl rfl (one_of HT_.out (by kernel_rfl)) (by decide) (fun K hK => ?_)
                refine goes_ Tryz.func59 (by kernel_rfl) rfl #[.int .i64 a2, .int .i64 t149] (by rfl) rfl rfl (by (try simp only [List.map_toArray, List.map_cons, List.map_nil]); first | done | rfl | (simp only [List.length_drop, List.length_take]; rfl)) ?_
                with_reducible refine (clock_Add.calls a2 t149 t150 _ A23.out).mono ?_
                rintro e w34 ⟨rfl, hb⟩
                refine ⟨_, rfl, ?_⟩
                have n0_ := Aside0.mk (blk_below (g := gb142) (o := .cells #[.int .i64 0, .int .i64 0, .slice none 0 0] 42 (0, 0)) (by (with_reducible repeat (first | refine blk_drewN ?_ _ | refine blk_drew ?_ | refine blk_alloc ?_ _)); exact BK142.out) hb)
                have n1_ := Aside0.mk (below_step (by repeat (first | (with_reducible first | exact HB.out | apply below_alloc | apply pw_below_drewN | apply below_drew1 | refine below_set ?_ GE142.out) | exact HB.out)) hb)
                clear BK142
                clear HB
                have BK142 := n0_
                have HB := n1_
                clear n0_ n1_
                (try clear hb)
                (try clear hb2)
                (try clear hk)
                (try clear hi)
                refine hK.out _ _ trivial (fun hHeld => ?_)
                clear hK K
                refine norm_ (a' := ?_) ?_ ?_
                rotate_left
                · show Act.put _ (some 68) _ = _
                  simp only [Act.put, List.setIfInBounds_toArray, List.set_cons_zero, List.set_cons_succ, i64_w, i32_w]
                  rfl
                refine one_ (i := 8) (N := some 73) #[true, true, true, true, true, true, true, true, true, false, true, false, false, false] rfl rfl (one_of HT_.out (by kernel_rfl)) (by decide) (fun K hK => ?_)
                refine goes_ Tryz.func38 (by kernel_rfl) rfl #[.slice A32 y151.length c32] (by rfl) rfl rfl (by (try simp only [List.map_toArray, List.map_cons, List.map_nil]); first | done | rfl | (simp only [List.length_drop, List.length_take]; rfl)) ?_
                with_reducible refine (bytes_Clone.calls k _ _ y151 t155 _ ?side1 ?side2 A27.out).mono ?_
                (case side1 => repeat (first | exact (Kd.C_below HR154.out HB.out) | (with_reducible refine Kd.C_alloc ?_ _) | (with_reducible refine Kd.C_drewN ?_ _) | (with_reducible refine Kd.C_drew ?_)))
                (case side2 => exact HC154.out)
                rintro e w35 ⟨v156, rfl, ho0, hb⟩
                refine ⟨_, rfl, ?_⟩
                have n0_ := Aside0.mk (Kd.R_lower ho0 (below_size (by repeat (first | (with_reducible first | exact HB.out | apply below_alloc | apply pw_below_drewN | apply below_drew1 | refine below_set ?_ GE142.out) | exact HB.out))))
                have n1_ := Aside0.mk (blk_below (g := gb142) (o := .cells #[.int .i64 0, .int .i64 0, .slice none 0 0] 42 (0, 0)) (by (with_reducible repeat (first | refine blk_drewN ?_ _ | refine blk_drew ?_ | refine blk_alloc ?_ _)); exact BK142.out) hb)
                have n2_ := Aside0.mk (below_step (by repeat (first | (with_reducible first | exact HB.out | apply below_alloc | apply pw_below_drewN | apply below_drew1 | refine below_set ?_ GE142.out) | exact HB.out)) hb)
                clear BK142
                clear HB
                have HO157 := n0_
                have BK142 := n1_
                have HB := n2_
                clear n0_ n1_ n2_
                (try clear hb)
                (try clear hb2)
                (try clear hk)
                (try clear hi)
                (try clear ho0)
                obtain ⟨Ao36, co36, eo36⟩ := Kd.R_slice HO157.out
                (first | subst eo36 | (injection eo36 with f1_ f2_ f3_; have f4_ := f1_.symm; have f5_ := f3_.symm; clear f1_ f2_ f3_; subst f4_; subst f5_))
                refine hK.out _ _ trivial (fun hHeld => ?_)
                clear hK K
                refine norm_ (a' := ?_) ?_ ?_
                rotate_left
                · show Act.put _ (some 73) _ = _
                  simp only [Act.put, List.setIfInBounds_toArray, List.set_cons_zero, List.set_cons_succ, i64_w, i32_w]
                  rfl
                refine pure_ (i := 9) (N := some 74) (v := ?_) (a' := ?_) #[true, true, true, true, true, true, true, true, true, true, true, false, false, false] rfl rfl (any_of HT_.out (by kernel_rfl)) (fun _ _ _ h => h) (Or.inl ⟨by rfl, ?_⟩) ?_ ?_
                rotate_left
                · intro w'
                  go_simp
                  with_reducible rfl
                rotate_left
                · simp only [Act.put, List.setIfInBounds_toArray, List.set_cons_zero, List.set_cons_succ, i64_w, i32_w]
                  rfl
                refine one_ (i := 11) (N := none) #[true, true, true, true, true, true, true, true, true, true, true, true, false, false] rfl rfl (one_of HT_.out (by kernel_rfl)) (by decide) (fun K hK => ?_)
                have hs37 : w35.cell? ⟨gb142, 0, none⟩ = some (.int .i64 0) := (blk_cell BK142.out 0).trans rfl
                have hfs37 := blk_frozen BK142.out 0
                have hs38 : w35.cell? ⟨gb142, 1, none⟩ = some (.int .i64 0) := (blk_cell BK142.out 1).trans rfl
                have hfs38 := blk_frozen BK142.out 1
                have hs39 : w35.cell? ⟨gb142, 2, none⟩ = some (.slice none 0 0) := (blk_cell BK142.out 2).trans rfl
                have hfs39 := blk_frozen BK142.out 2
                refine skip_ (w1 := ?_) (by rfl) rfl ?_ ?_
                rotate_left
                · go_simp
                  rfl
                refine hK.out _ _ trivial (fun hHeld => ?_)
                clear hK K
                refine pure_ (i := 12) (N := some 9) (v := ?_) (a' := ?_) #[true, true, true, true, true, true, true, true, true, true, true, true, true, false] rfl rfl (any_of HT_.out (by kernel_rfl)) (fun _ _ _ h => h) (Or.inl ⟨by rfl, ?_⟩) ?_ ?_
                rotate_left
                · intro w'
                  go_simp
                  with_reducible rfl
                rotate_left
                · simp only [Act.put, List.setIfInBounds_toArray, List.set_cons_zero, List.set_cons_succ, i64_w, i32_w]
                  rfl
                refine pure_ (i := 13) (N := some 10) (v := ?_) (a' := ?_) #[true, true, true, true, true, true, true, true, true, true, true, true, true, true] rfl rfl (any_of HT_.out (by kernel_rfl)) (fun _ _ _ h => h) (Or.inl ⟨by rfl, ?_⟩) ?_ ?_
                rotate_left
                · intro w'
                  go_simp
                  with_reducible rfl
                rotate_left
                · simp only [Act.put, List.setIfInBounds_toArray, List.set_cons_zero, List.set_cons_succ, i64_w, i32_w]
                  rfl
                refine done_ (done_of HT_.out (by kernel_rfl)) ?_
                (try (have iw43 : IntKind.i64.wrap ((l0.length : Int) - t147) = wrap64 ((l0.length : Int) - t147) := i64_w _))
                (try (have iw44 : IntKind.i64.wrap (t146) = wrap64 (t146) := i64_w _))
                (try (have iw45 : IntKind.i64.wrap (t147 + (wrap64 (t146))) = wrap64 (t147 + (wrap64 (t146))) := i64_w _))
                try go_wp2
                refine bodyPost_ret (results_ctt rfl _ _ gb142 42 #[.int .i64 0, .int .i64 t150, .slice Ao36 t155.length co36] (0, 0) _ rfl (by (with_reducible repeat (first | refine blk_drewN ?_ _ | refine blk_drew ?_ | refine blk_alloc ?_ _)); refine blk_put (cs := #[.int .i64 0, .int .i64 t150, .slice none 0 0]) ?_ 2 _ rfl; (with_reducible repeat (first | refine blk_drewN ?_ _ | refine blk_drew ?_ | refine blk_alloc ?_ _)); refine blk_put (cs := #[.int .i64 0, .int .i64 0, .slice none 0 0]) ?_ 1 _ rfl; (with_reducible repeat (first | refine blk_drewN ?_ _ | refine blk_drew ?_ | refine blk_alloc ?_ _)); refine blk_put (cs := #[.int .i64 0, .int .i64 0, .slice none 0 0]) ?_ 0 _ rfl; (with_reducible repeat (first | refine blk_drewN ?_ _ | refine blk_drew ?_ | refine blk_alloc ?_ _)); exact BK142.out) Tryz.underlying42 rfl (by kernel_rfl)) rfl ?_
                exact ⟨_, by first | rfl | (simp [errW_none, errW_some] <;> rfl) | (simp only [← hji9]; first | rfl | (simp [errW_none, errW_some] <;> rfl)) | (simp [*, errW_none, errW_some] <;> rfl), by (with_reducible repeat (first | apply Kd.R_alloc | apply Kd.R_drewN | apply Kd.R_drew)); exact Kd.R_mono (Kd.R_far (p := ⟨gb142, 2, none⟩) (Kd.R_far (p := ⟨gb142, 1, none⟩) (Kd.R_far (p := ⟨gb142, 0, none⟩) (Kd.R_types HO157.out BK142.out (by decide)) (fun _ hk => hk.2) (.int .i64 0)) (fun _ hk => hk.2) (.int .i64 t150)) (fun _ hk => hk.2) (.slice Ao36 t155.length co36)) (fun _ hk => trivial), by repeat (first | (with_reducible first | exact HB.out | apply below_alloc | apply pw_below_drewN | apply below_drew1 | refine below_set ?_ GE142.out) | exact HB.out)⟩
              · rw [if_neg c26] at H
                exact absurd H (by simp)
            · rw [if_neg c25] at H
              exact absurd H (by simp)
          · rw [if_neg c24] at H
            exact absurd H (by simp)
    · rw [if_neg c8] at H
      have c8b0 : (t148 == 0) = false := beq_eq_false_iff_ne.mpr c8
      have c8b1 : (t148 != 0) = true := bne_iff_ne.mpr c8
      simp only [Option.some.injEq, Prod.mk.injEq] at H
      obtain ⟨rfl, rfl, rfl, rfl, rfl⟩ := H
      go_enter Tryz.func32, Tryz.ntmps32
      go_wp2_with (first | ((with_reducible refine gate_dst (N := 8) rfl ?_); refine box_event ?hg (N := 8) ?hd (cs := #[.int .i64 0, .int .i64 0, .slice none 0 0]) (t := 42) ?hr ?_; (case hd => rfl); (case hg => rfl); (case hr => first | (go_simp; done) | (go_simp; rfl)); intro gb142 hg w46 hbox hb; have n0_ := Aside0.mk (below_step (by repeat (first | (with_reducible first | exact HB.out | apply below_alloc | apply pw_below_drewN | apply below_drew1) | exact HB.out)) hb); have n1_ := Aside0.mk (hbox); have n2_ := Aside0.mk ((by rw [hg]; exact (below_size (by repeat (first | (with_reducible first | exact HB.out | apply below_alloc | apply pw_below_drewN | apply below_drew1) | exact HB.out))) : w.heap.size ≤ gb142)); have n3_ := Aside0.mk ((by rw [hg]; exact (below_size (by repeat (first | (with_reducible first | exact HB.out | apply below_alloc | apply pw_below_drewN | apply below_drew1) | exact HB.out))) : w.heap.size ≤ gb142)); clear HB; have HB := n0_; have BK142 := n1_; have GW142 := n2_; have GE142 := n3_; clear n0_ n1_ n2_ n3_; clear hb hbox hg) | ((with_reducible refine gate_callee (f := 58) rfl ?_); refine goesL_ (some 20) rfl rfl Tryz.func58 (by kernel_rfl) rfl #[.slice A0 l0.length c0, .int .i64 a1] rfl (by (try simp only [List.map_toArray, List.map_cons, List.map_nil]); first | done | rfl | (simp only [List.length_drop, List.length_take]; rfl)) ?_; (with_reducible refine (vary_Get.calls k _ _ l0 a1 t143 t144 t145 _ ?side1 ?side2 A5.out).mono ?_); (case side1 => repeat (first | exact (Kd.C_below HR0.out HB.out) | (with_reducible refine Kd.C_alloc ?_ _) | (with_reducible refine Kd.C_drewN ?_ _) | (with_reducible refine Kd.C_drew ?_))); (case side2 => exact HC0.out); rintro e w47 ⟨rfl, hb⟩; refine ⟨_, rfl, ?_⟩; have n0_ := Aside0.mk (blk_below (g := gb142) (o := .cells #[.int .i64 0, .int .i64 0, .slice none 0 0] 42 (0, 0)) (by (with_reducible repeat (first | refine blk_drewN ?_ _ | refine blk_drew ?_ | refine blk_alloc ?_ _)); exact BK142.out) hb); have n1_ := Aside0.mk (below_step (by repeat (first | (with_reducible first | exact HB.out | apply below_alloc | apply pw_below_drewN | apply below_drew1 | refine below_set ?_ GE142.out) | exact HB.out)) hb); clear BK142; clear HB; have BK142 := n0_; have HB := n1_; clear n0_ n1_; (try clear hb); (try clear hb2); (try clear hk); (try clear hi)) | ((with_reducible refine gate_callee (f := 58) rfl ?_); refine goesL_ (some 32) rfl rfl Tryz.func58 (by kernel_rfl) rfl #[.slice A0 l0.length c0, .int .i64 t144] rfl (by (try simp only [List.map_toArray, List.map_cons, List.map_nil]); first | done | rfl | (simp only [List.length_drop, List.length_take]; rfl)) ?_; (with_reducible refine (vary_Get.calls k _ _ l0 t144 t146 t147 t148 _ ?side1 ?side2 A7.out).mono ?_); (case side1 => repeat (first | exact (Kd.C_below HR0.out HB.out) | (with_reducible refine Kd.C_alloc ?_ _) | (with_reducible refine Kd.C_drewN ?_ _) | (with_reducible refine Kd.C_drew ?_))); (case side2 => exact HC0.out); rintro e w48 ⟨rfl, hb⟩; refine ⟨_, rfl, ?_⟩; have n0_ := Aside0.mk (blk_below (g := gb142) (o := .cells #[.int .i64 0, .int .i64 0, .slice none 0 0] 42 (0, 0)) (by (with_reducible repeat (first | refine blk_drewN ?_ _ | refine blk_drew ?_ | refine blk_alloc ?_ _)); exact BK142.out) hb); have n1_ := Aside0.mk (below_step (by repeat (first | (with_reducible first | exact HB.out | apply below_alloc | apply pw_below_drewN | apply below_drew1 | refine below_set ?_ GE142.out) | exact HB.out)) hb); clear BK142; clear HB; have BK142 := n0_; have HB := n1_; clear n0_ n1_; (try clear hb); (try clear hb2); (try clear hk); (try clear hi); have hcz49_0 : w48.cell? ⟨gb142, 0, none⟩ = some (.int .i64 0) := (blk_cell BK142.out 0).trans rfl; have hcz49_1 : w48.cell? ⟨gb142, 1, none⟩ = some (.int .i64 0) := (blk_cell BK142.out 1).trans rfl; have hcz49_2 : w48.cell? ⟨gb142, 2, none⟩ = some (.slice none 0 0) := (blk_cell BK142.out 2).trans rfl; have hfz49_0 := blk_frozen BK142.out 0; have hfz49_1 := blk_frozen BK142.out 1; have hfz49_2 := blk_frozen BK142.out 2))
      refine bodyPost_ret (results_ctt rfl _ _ gb142 42 #[.int .i64 0, .int .i64 0, .slice none 0 0] (0, 0) _ rfl (by (with_reducible repeat (first | refine blk_drewN ?_ _ | refine blk_drew ?_ | refine blk_alloc ?_ _)); refine blk_put (cs := #[.int .i64 0, .int .i64 0, .slice none 0 0]) ?_ 2 _ rfl; (with_reducible repeat (first | refine blk_drewN ?_ _ | refine blk_drew ?_ | refine blk_alloc ?_ _)); refine blk_put (cs := #[.int .i64 0, .int .i64 0, .slice none 0 0]) ?_ 1 _ rfl; (with_reducible repeat (first | refine blk_drewN ?_ _ | refine blk_drew ?_ | refine blk_alloc ?_ _)); refine blk_put (cs := #[.int .i64 0, .int .i64 0, .slice none 0 0]) ?_ 0 _ rfl; (with_reducible repeat (first | refine blk_drewN ?_ _ | refine blk_drew ?_ | refine blk_alloc ?_ _)); exact BK142.out) Tryz.underlying42 rfl (by kernel_rfl)) rfl ?_
      exact ⟨_, by first | rfl | (simp [errW_none, errW_some] <;> rfl) | (simp [*, errW_none, errW_some] <;> rfl), by first | exact Kd.R_nil _ _ _ _ _ | exact Kd.N_nil _ _ _ _ _ | exact Kd.V_nil _ _ _ _ _ | exact Kd.Q_nil _ _ _ _ _ | exact Kd.S_nil _ _ _ _ _, by repeat (first | (with_reducible first | exact HB.out | apply below_alloc | apply pw_below_drewN | apply below_drew1 | refine below_set ?_ GE142.out) | exact HB.out)⟩
  · rw [if_neg c6] at H
    have c6b0 : (t145 == 0) = false := beq_eq_false_iff_ne.mpr c6
    have c6b1 : (t145 != 0) = true := bne_iff_ne.mpr c6
    simp only [Option.some.injEq, Prod.mk.injEq] at H
    obtain ⟨rfl, rfl, rfl, rfl, rfl⟩ := H
    go_enter Tryz.func32, Tryz.ntmps32
    go_wp2_with (first | ((with_reducible refine gate_dst (N := 8) rfl ?_); refine box_event ?hg (N := 8) ?hd (cs := #[.int .i64 0, .int .i64 0, .slice none 0 0]) (t := 42) ?hr ?_; (case hd => rfl); (case hg => rfl); (case hr => first | (go_simp; done) | (go_simp; rfl)); intro gb142 hg w50 hbox hb; have n0_ := Aside0.mk (below_step (by repeat (first | (with_reducible first | exact HB.out | apply below_alloc | apply pw_below_drewN | apply below_drew1) | exact HB.out)) hb); have n1_ := Aside0.mk (hbox); have n2_ := Aside0.mk ((by rw [hg]; exact (below_size (by repeat (first | (with_reducible first | exact HB.out | apply below_alloc | apply pw_below_drewN | apply below_drew1) | exact HB.out))) : w.heap.size ≤ gb142)); have n3_ := Aside0.mk ((by rw [hg]; exact (below_size (by repeat (first | (with_reducible first | exact HB.out | apply below_alloc | apply pw_below_drewN | apply below_drew1) | exact HB.out))) : w.heap.size ≤ gb142)); clear HB; have HB := n0_; have BK142 := n1_; have GW142 := n2_; have GE142 := n3_; clear n0_ n1_ n2_ n3_; clear hb hbox hg) | ((with_reducible refine gate_callee (f := 58) rfl ?_); refine goesL_ (some 20) rfl rfl Tryz.func58 (by kernel_rfl) rfl #[.slice A0 l0.length c0, .int .i64 a1] rfl (by (try simp only [List.map_toArray, List.map_cons, List.map_nil]); first | done | rfl | (simp only [List.length_drop, List.length_take]; rfl)) ?_; (with_reducible refine (vary_Get.calls k _ _ l0 a1 t143 t144 t145 _ ?side1 ?side2 A5.out).mono ?_); (case side1 => repeat (first | exact (Kd.C_below HR0.out HB.out) | (with_reducible refine Kd.C_alloc ?_ _) | (with_reducible refine Kd.C_drewN ?_ _) | (with_reducible refine Kd.C_drew ?_))); (case side2 => exact HC0.out); rintro e w51 ⟨rfl, hb⟩; refine ⟨_, rfl, ?_⟩; have n0_ := Aside0.mk (blk_below (g := gb142) (o := .cells #[.int .i64 0, .int .i64 0, .slice none 0 0] 42 (0, 0)) (by (with_reducible repeat (first | refine blk_drewN ?_ _ | refine blk_drew ?_ | refine blk_alloc ?_ _)); exact BK142.out) hb); have n1_ := Aside0.mk (below_step (by repeat (first | (with_reducible first | exact HB.out | apply below_alloc | apply pw_below_drewN | apply below_drew1 | refine below_set ?_ GE142.out) | exact HB.out)) hb); clear BK142; clear HB; have BK142 := n0_; have HB := n1_; clear n0_ n1_; (try clear hb); (try clear hb2); (try clear hk); (try clear hi); have hcz52_0 : w51.cell? ⟨gb142, 0, none⟩ = some (.int .i64 0) := (blk_cell BK142.out 0).trans rfl; have hcz52_1 : w51.cell? ⟨gb142, 1, none⟩ = some (.int .i64 0) := (blk_cell BK142.out 1).trans rfl; have hcz52_2 : w51.cell? ⟨gb142, 2, none⟩ = some (.slice none 0 0) := (blk_cell BK142.out 2).trans rfl; have hfz52_0 := blk_frozen BK142.out 0; have hfz52_1 := blk_frozen BK142.out 1; have hfz52_2 := blk_frozen BK142.out 2))
    refine bodyPost_ret (results_ctt rfl _ _ gb142 42 #[.int .i64 0, .int .i64 0, .slice none 0 0] (0, 0) _ rfl (by (with_reducible repeat (first | refine blk_drewN ?_ _ | refine blk_drew ?_ | refine blk_alloc ?_ _)); refine blk_put (cs := #[.int .i64 0, .int .i64 0, .slice none 0 0]) ?_ 2 _ rfl; (with_reducible repeat (first | refine blk_drewN ?_ _ | refine blk_drew ?_ | refine blk_alloc ?_ _)); refine blk_put (cs := #[.int .i64 0, .int .i64 0, .slice none 0 0]) ?_ 1 _ rfl; (with_reducible repeat (first | refine blk_drewN ?_ _ | refine blk_drew ?_ | refine blk_alloc ?_ _)); refine blk_put (cs := #[.int .i64 0, .int .i64 0, .slice none 0 0]) ?_ 0 _ rfl; (with_reducible repeat (first | refine blk_drewN ?_ _ | refine blk_drew ?_ | refine blk_alloc ?_ _)); exact BK142.out) Tryz.underlying42 rfl (by kernel_rfl)) rfl ?_
    exact ⟨_, by first | rfl | (simp [errW_none, errW_some] <;> rfl) | (simp [*, errW_none, errW_some] <;> rfl), by first | exact Kd.R_nil _ _ _ _ _ | exact Kd.N_nil _ _ _ _ _ | exact Kd.V_nil _ _ _ _ _ | exact Kd.Q_nil _ _ _ _ _ | exact Kd.S_nil _ _ _ _ _, by repeat (first | (with_reducible first | exact HB.out | apply below_alloc | apply pw_below_drewN | apply below_drew1 | refine below_set ?_ GE142.out) | exact HB.out)⟩

end Go.Proofs.YtbdknddgfmoipaaGreatDoor.QA
