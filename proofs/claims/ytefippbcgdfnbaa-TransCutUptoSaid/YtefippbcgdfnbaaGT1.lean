import Derived.Test.YtefippbcgdfnbaaGVary
import Derived.Test.YtefippbcgdfnbaaGEv
import Derived.Test.YtefippbcgdfnbaaQAx5
import Derived.Test.YtefippbcgdfnbaaQAx6
import Derived.Test.YtefippbcgdfnbaaQAx15
import Derived.Test.YtefippbcgdfnbaaQAx16
namespace Go.Proofs.Ytefippbcgdfnbaa.QA
open Go.RowKit Go.Proofs.YtefippbcgdfnbaaW.PrintWords Go.Proofs.YtefippbcgdfnbaaW.PrintLast Go.Proofs.YtefippbcgdfnbaaW.PrintMore
set_option linter.unusedVariables false
set_option linter.unusedSimpArgs false
/-! ### a transcript's bytes -/
open Classical in
/-- a number's bytes -/
noncomputable def en (x : Nat) : List Int := if h : ∃ m, Va.Cnt x m then Va.enc x h.choose else []
theorem en_eq {x m : Nat} (h : Va.Cnt x m) : en x = Va.enc x m := by
  have hx : ∃ m, Va.Cnt x m := ⟨m, h⟩
  unfold en
  rw [dif_pos hx, hx.choose_spec.unique h]
theorem put_en (x : Nat) (hx : x < 2 ^ 64) {k : Nat} (hk : 12 ≤ k) : vary_Put.f k (x : Int) = some (en x) := by
  obtain ⟨m, hm, hp⟩ := Va.put_f x hx
  rw [hp k hk, en_eq hm]
theorem refput_en (x : Nat) (hx : x < 2 ^ 64) {k : Nat} (hk : 12 ≤ k) : cuecardref02_Put.f k (x : Int) = some (en x) := by
  obtain ⟨m, hm⟩ := Va.Cnt.exists x hx
  rw [Va.refput_f x m hx hm k hk, en_eq hm]
theorem en_len (x : Nat) (hx : x < 2 ^ 64) : 1 ≤ (en x).length ∧ (en x).length ≤ 10 := by
  obtain ⟨m, hm⟩ := Va.Cnt.exists x hx
  rw [en_eq hm, Va.enc_length]
  exact ⟨hm.1, hm.2.1⟩
theorem en_rng (x : Nat) : ∀ b ∈ en x, 0 ≤ b ∧ b < 256 := by
  intro b hb
  unfold en at hb
  split at hb
  · unfold Va.enc at hb
    obtain ⟨i, _, rfl⟩ := List.mem_map.1 hb
    exact Va.byt_range _ _ _
  · cases hb
def I64 (x : Int) : Prop := -9223372036854775808 ≤ x ∧ x ≤ 9223372036854775807
theorem wrap_i64 (x : Int) : I64 (wrap64 x) := by unfold I64 wrap64; omega
def zg (x : Int) : Nat := (if 0 ≤ x then 2 * x else -2 * x - 1).toNat
def ug (u : Nat) : Int := if (u : Int) % 2 = 0 then (u : Int) / 2 else -((u : Int) / 2) - 1
theorem zg_lt {x : Int} (h : I64 x) : zg x < 2 ^ 64 := by unfold zg; unfold I64 at h; split <;> omega
theorem zig_zg {x : Int} (h : I64 x) : vary_Zig.f x = some ((zg x : Nat) : Int) := by
  rw [Va.zig_spec x h.1 h.2]; unfold zg; congr 1; split <;> omega
theorem refzig_zg {x : Int} (h : I64 x) : cuecardref02_Zig.f x = some ((zg x : Nat) : Int) := by
  rw [Va.refzig_spec x h.1 h.2]; unfold zg; congr 1; split <;> omega
theorem zag_ug {u : Nat} (h : u < 2 ^ 64) : vary_Zag.f (u : Int) = some (ug u) := by
  rw [Va.zag_spec _ (by omega) (by omega)]; rfl
theorem refzag_ug {u : Nat} (h : u < 2 ^ 64) : cuecardref02_Zag.f (u : Int) = some (ug u) := by
  rw [Va.refzag_spec _ (by omega) (by omega)]; rfl
theorem ug_i64 {u : Nat} (h : u < 2 ^ 64) : I64 (ug u) := by unfold I64 ug; split <;> omega
theorem ug_zg (x : Int) : ug (zg x) = x := by
  unfold ug zg
  by_cases h : 0 ≤ x
  · rw [if_pos h, if_pos (by omega)]; omega
  · rw [if_neg h, if_neg (by omega)]; omega
theorem zg_ug (u : Nat) : zg (ug u) = u := by
  unfold zg ug
  by_cases h : (u : Int) % 2 = 0
  · rw [if_pos h, if_pos (by omega)]; omega
  · rw [if_neg h, if_neg (by omega)]; omega
/-- an event's bytes behind the time `last` -/
noncomputable def evb (last : Int) (e : S43) : List Int := (1 + e.f0) :: (en (zg (wrap64 (e.f1 - last))) ++ (en e.f2.length ++ e.f2))
noncomputable def evs : Int → List S43 → List Int
  | _, [] => []
  | last, e :: l => evb last e ++ evs e.f1 l
def fin (b : Bool) : List Int := if b = true then [3] else []
noncomputable def trn (l : List S43) (b : Bool) : List Int := [67, 85, 69, 49] ++ (evs 0 l ++ fin b)
/-- an event that may be told -/
def Ok1 (x : S43) : Prop := (x.f0 = 0 ∨ x.f0 = 1) ∧ x.f2.length ≤ 65536
theorem chk_zero (l : List S43) : ∀ a : Nat, a ≤ 262144 → (chk l a = 0 ↔ (∀ x ∈ l, Ok1 x) ∧ a + tot l ≤ 262144) := by
  induction l with
  | nil => intro a ha; simp [chk, tot, ha]
  | cons x r ih =>
    intro a ha
    rw [chk, tot_cons]
    by_cases h : x.f0 ≠ 0 ∧ x.f0 ≠ 1
    · rw [if_pos h]
      refine ⟨fun h2 => absurd h2 (by decide), fun h2 => ?_⟩
      have := (h2.1 x (List.mem_cons_self ..)).1
      omega
    · rw [if_neg h]
      by_cases h2 : 65536 < x.f2.length ∨ 262144 < a + x.f2.length
      · rw [if_pos h2]
        refine ⟨fun h3 => absurd h3 (by decide), fun h3 => ?_⟩
        have := (h3.1 x (List.mem_cons_self ..)).2
        have := h3.2
        omega
      · rw [if_neg h2, ih _ (by omega)]
        constructor
        · rintro ⟨h3, h4⟩
          refine ⟨fun y hy => ?_, by omega⟩
          rcases List.mem_cons.1 hy with rfl | hy
          · exact ⟨by omega, by omega⟩
          · exact h3 y hy
        · rintro ⟨h3, h4⟩
          exact ⟨fun y hy => h3 y (List.mem_cons_of_mem _ hy), by omega⟩
/-- what Check says -/
def chkV (l : List S43) : Int := if 4096 < l.length then 10 else chk l 0
/-- events that may be told -/
def Good (l : List S43) : Prop := l.length ≤ 4096 ∧ (∀ x ∈ l, Ok1 x) ∧ tot l ≤ 262144
theorem chkV_zero (l : List S43) : chkV l = 0 ↔ Good l := by
  unfold chkV Good
  by_cases h : 4096 < l.length
  · rw [if_pos h]; exact ⟨fun h2 => absurd h2 (by decide), fun h2 => by omega⟩
  · rw [if_neg h, chk_zero l 0 (by omega)]
    constructor
    · rintro ⟨h1, h2⟩; exact ⟨by omega, h1, by omega⟩
    · rintro ⟨_, h1, h2⟩; exact ⟨h1, by omega⟩
theorem evb_len (last : Int) (e : S43) (h : e.f2.length ≤ 65536) : 3 ≤ (evb last e).length ∧ (evb last e).length ≤ 21 + e.f2.length := by
  unfold evb
  have h1 := en_len _ (zg_lt (wrap_i64 (e.f1 - last)))
  have h2 := en_len e.f2.length (by omega)
  simp only [List.length_cons, List.length_append]
  omega
theorem evs_len (l : List S43) : ∀ last, (∀ x ∈ l, Ok1 x) → (evs last l).length ≤ 21 * l.length + tot l := by
  induction l with
  | nil => intro last _; simp [evs, tot]
  | cons e r ih =>
    intro last h
    have h1 := evb_len last e (h e (List.mem_cons_self ..)).2
    have h2 := ih e.f1 (fun x hx => h x (List.mem_cons_of_mem _ hx))
    rw [evs, tot_cons, List.length_append, List.length_cons]
    omega
theorem trn_len {l : List S43} (h : Good l) (b : Bool) : 4 ≤ (trn l b).length ∧ (trn l b).length ≤ 1048576 := by
  have := evs_len l 0 h.2.1
  have h1 := h.1
  have h2 := h.2.2
  unfold trn fin
  simp only [List.length_append, List.length_cons, List.length_nil]
  split <;> simp <;> omega
theorem wtag {d : Int} (h : d = 0 ∨ d = 1) : (wrap64 (1 + d)) % 256 = 1 + d := by unfold wrap64; omega
theorem wrapN (n : Nat) (h : n < 2 ^ 63) : IntKind.u64.wrap ((n : Nat) : Int) = (n : Int) := by rw [Va.wrapU64]; omega
theorem enc_l0 (l : List S43) (b : Bool) (h : ∀ x ∈ l, Ok1 x) (hl : l.length ≤ 4096) (d : Nat) : ∀ (i k : Nat) (out : List Int) (last : Int), i + d = l.length → d + 12 < k → out.length + 21 * d + tot (l.drop i) ≤ 1073741824 →
    trans_Encode.l0 k out last l (l.length : Int) (i : Int) l b = some (out ++ (evs last (l.drop i) ++ fin b), 0) := by
  induction d with
  | zero =>
    intro i k out last hi hk ht
    obtain ⟨k, rfl⟩ : ∃ m, k = m + 1 := ⟨k - 1, by omega⟩
    rw [trans_Encode.l0, if_neg (by omega), List.drop_of_length_le (by omega)]
    unfold fin
    cases b
    · simp [evs]
    · rw [if_pos rfl, if_pos (by omega)]; simp [evs]
  | succ d ih =>
    intro i k out last hi hk ht
    obtain ⟨k, rfl⟩ : ∃ m, k = m + 1 := ⟨k - 1, by omega⟩
    have hlt : i < l.length := by omega
    have hx := h l[i] (List.getElem_mem hlt)
    have hn := hx.2
    have hz := wrap_i64 (l[i].f1 - last)
    have hz1 := zg_lt hz
    have hw1 : wrap64 ((i : Int) + 1) = ((i + 1 : Nat) : Int) := by unfold wrap64; omega
    have e1 := en_len _ hz1
    have e2 := en_len l[i].f2.length (by omega)
    rw [List.drop_eq_getElem_cons hlt, tot_cons] at ht
    rw [trans_Encode.l0, if_pos (by omega), if_pos (by omega), if_pos (by omega), rdT l i hlt, if_pos (by omega), hw1, List.drop_eq_getElem_cons hlt, evs]
    simp only [Option.bind_some, clock_Delta.f, zig_zg hz, put_en _ hz1 (show 12 ≤ k by omega), wtag hx.1, wrapN _ (show l[i].f2.length < 2 ^ 63 by omega), put_en _ (show l[i].f2.length < 2 ^ 64 by omega) (show 12 ≤ k by omega)]
    rw [if_pos (by simp only [List.length_append, List.length_cons, List.length_nil]; omega), if_pos (by simp only [List.length_append, List.length_cons, List.length_nil]; omega), if_pos (by simp only [List.length_append, List.length_cons, List.length_nil]; omega)]
    rw [ih (i + 1) k _ _ (by omega) (by omega) (by simp only [List.length_append, List.length_cons, List.length_nil]; omega)]
    unfold evb
    simp
theorem enc_f (l : List S43) (hs : small l) (b : Bool) {k : Nat} (hk : 2 * l.length + 20 ≤ k) : trans_Encode.f k l b = some (if chkV l = 0 then (trn l b, 0) else ([], chkV l)) := by
  have hc : event_Check.f k l = some (chkV l) := check_f l hs (by omega)
  unfold trans_Encode.f
  rw [hc]
  simp only [Option.bind_some]
  by_cases h : chkV l = 0
  · rw [if_pos h, if_pos h]
    have g := (chkV_zero l).1 h
    have := enc_l0 l b g.2.1 g.1 l.length 0 k [67, 85, 69, 49] 0 (by omega) (by omega) (by have := g.1; have := g.2.2; simp; omega)
    exact this
  · rw [if_neg h, if_neg h]
theorem delta_ref (a b : Int) : cuecardref03_Delta.f a b = some (wrap64 (b - a)) := by
  unfold cuecardref03_Delta.f
  rw [Va.wrapU64, Va.wrapU64, Va.wrapU64]
  congr 1
  unfold wrap64
  omega
theorem refenc_l0 (l : List S43) (b : Bool) (h : ∀ x ∈ l, Ok1 x) (hl : l.length ≤ 4096) (d : Nat) : ∀ (i k : Nat) (out : List Int) (last : Int), i + d = l.length → d + 12 < k → out.length + 21 * d + tot (l.drop i) ≤ 1073741824 →
    cuecardref05_Encode.l0 k out last (i : Int) l b = some (out ++ (evs last (l.drop i) ++ fin b)) := by
  induction d with
  | zero =>
    intro i k out last hi hk ht
    obtain ⟨k, rfl⟩ : ∃ m, k = m + 1 := ⟨k - 1, by omega⟩
    rw [cuecardref05_Encode.l0, if_neg (by omega), List.drop_of_length_le (by omega)]
    unfold fin
    cases b
    · simp [evs]
    · rw [if_pos rfl, if_pos (by omega)]; simp [evs]
  | succ d ih =>
    intro i k out last hi hk ht
    obtain ⟨k, rfl⟩ : ∃ m, k = m + 1 := ⟨k - 1, by omega⟩
    have hlt : i < l.length := by omega
    have hx := h l[i] (List.getElem_mem hlt)
    have hn := hx.2
    have hz := wrap_i64 (l[i].f1 - last)
    have hz1 := zg_lt hz
    have hw1 : wrap64 ((i : Int) + 1) = ((i + 1 : Nat) : Int) := by unfold wrap64; omega
    have e1 := en_len _ hz1
    have e2 := en_len l[i].f2.length (by omega)
    rw [List.drop_eq_getElem_cons hlt, tot_cons] at ht
    rw [cuecardref05_Encode.l0, if_pos (by omega), if_pos (by omega), rdT l i hlt, if_pos (by omega), hw1, List.drop_eq_getElem_cons hlt, evs]
    simp only [Option.bind_some, delta_ref, refzig_zg hz, refput_en _ hz1 (show 12 ≤ k by omega), wtag hx.1, wrapN _ (show l[i].f2.length < 2 ^ 63 by omega), refput_en _ (show l[i].f2.length < 2 ^ 64 by omega) (show 12 ≤ k by omega)]
    rw [if_pos (by simp only [List.length_append, List.length_cons, List.length_nil]; omega), if_pos (by simp only [List.length_append, List.length_cons, List.length_nil]; omega), if_pos (by simp only [List.length_append, List.length_cons, List.length_nil]; omega)]
    rw [ih (i + 1) k _ _ (by omega) (by omega) (by simp only [List.length_append, List.length_cons, List.length_nil]; omega)]
    unfold evb
    simp
theorem refenc_f (l : List S43) (g : Good l) (b : Bool) {k : Nat} (hk : l.length + 20 ≤ k) : cuecardref05_Encode.f k l b = some (trn l b) := by
  have := refenc_l0 l b g.2.1 g.1 l.length 0 k [67, 85, 69, 49] 0 (by omega) (by omega) (by have := g.1; have := g.2.2; simp; omega)
  exact this
theorem refchk_f (l : List S43) (hs : small l) {k : Nat} (hk : 2 * l.length + 20 ≤ k) : cuecardref04_Check.f k l = some (chkV l) := refcheck_f l hs (by omega)
end Go.Proofs.Ytefippbcgdfnbaa.QA
