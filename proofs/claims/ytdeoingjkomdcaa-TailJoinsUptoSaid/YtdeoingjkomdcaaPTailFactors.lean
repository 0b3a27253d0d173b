import Derived.Lib.Bytes
import Derived.Laws.BytesArg
import Derived.KernelRfl
import Derived.Test.YtdeoingjkomdcaaGAlive
import Derived.Test.YtdeoingjkomdcaaQAx6
import Derived.Test.YtdeoingjkomdcaaGEnds
import Derived.Test.YtdeoingjkomdcaaQAx7
import Derived.Test.YtdeoingjkomdcaaGFacs
import Derived.Test.YtdeoingjkomdcaaQAx15
import Derived.Test.YtdeoingjkomdcaaQAx16
namespace Go.Proofs.Ytdeoingjkomdcaa.QA
open Go.RowKit Go.Proofs.YtdeoingjkomdcaaW.PrintWords Go.Proofs.YtdeoingjkomdcaaW.PrintLast Go.Proofs.YtdeoingjkomdcaaW.PrintMore
set_option linter.unusedVariables false
set_option linter.unusedSimpArgs false
/-! ### tail.Factors, TailFactors, TailJoins -/
theorem st_drop {s p : List Int} {a j : Nat} (ha : a ≤ s.length) : St (s.drop a) p j ↔ St s p (a + j) := by
  unfold St
  rw [List.length_drop, List.drop_drop]
  constructor
  · rintro ⟨h1, h2⟩; exact ⟨by omega, h2⟩
  · rintro ⟨h1, h2⟩; exact ⟨by omega, h2⟩
theorem stands_st {s p : List Int} {i : Nat} (hi : i ≤ s.length) : stands s p i = true ↔ St s p i := by
  constructor
  · intro h; exact ⟨stands_le h hi, beq_iff_eq.1 h⟩
  · intro h; exact beq_iff_eq.2 h.2
theorem places_head (s p : List Int) : (places s p).head? = (ff s p 0).map fun (i : Nat) => (i : Int) := by
  unfold places
  rw [List.head?_map, List.head?_filter]
  congr 1
  cases h : ff s p 0 with
  | some q =>
    obtain ⟨_, h2, h3⟩ := ff_some h
    have hq := h2.1
    rw [List.find?_range_eq_some]
    refine ⟨(stands_st (by omega)).2 h2, List.mem_range.2 (by omega), fun j hj => ?_⟩
    have := h3 j (by omega) hj
    have h4 := mt (stands_st (s := s) (p := p) (i := j) (by omega)).1 this
    simpa using h4
  | none =>
    rw [List.find?_eq_none]
    intro j hj
    rw [List.mem_range] at hj
    exact mt (stands_st (by omega)).1 (ff_none h j (by omega))
theorem first_f {k : Nat} {s p : List Int} (hs : s.length ≤ 1048576) (hp : p.length ≤ 1048576) : kmp_First_byte.f k s p = some (told (ff s p 0)) := by
  unfold kmp_First_byte.f
  rw [if_pos ⟨hs, hp⟩]
  have h := places_head s p
  cases hl : places s p with
  | nil =>
    rw [hl] at h
    cases hf : ff s p 0 with
    | none => rfl
    | some q => rw [hf] at h; cases h
  | cons x r =>
    rw [hl] at h
    cases hf : ff s p 0 with
    | none => rw [hf] at h; cases h
    | some q =>
      rw [hf] at h
      have : x = (q : Int) := Option.some.inj h
      rw [this]; rfl
theorem ff_drop {s p : List Int} {a f : Nat} (ha : a ≤ s.length) : ff s p (a + f) = (ff (s.drop a) p f).map (fun j => a + j) := by
  cases h : ff (s.drop a) p f with
  | some q =>
    obtain ⟨h1, h2, h3⟩ := ff_some h
    show ff s p (a + f) = some (a + q)
    refine ff_is (by omega) ((st_drop ha).1 h2) (fun j j1 j2 => ?_)
    have := mt (st_drop (p := p) (j := j - a) ha).2 (h3 (j - a) (by omega) (by omega))
    rwa [show a + (j - a) = j by omega] at this
  | none =>
    refine ff_is_none (fun j hj => ?_)
    have := mt (st_drop (p := p) (j := j - a) ha).2 (ff_none h (j - a) (by omega))
    rwa [show a + (j - a) = j by omega] at this
theorem fac_drop {s : List Int} {a : Nat} (ha : a ≤ s.length) : ∀ (l : List (List Int)) (f : Nat), fac s (a + f) l = (fac (s.drop a) f l).map (fun j => a + j) := by
  intro l
  induction l with
  | nil => intro f; rfl
  | cons p r ih =>
    intro f
    rw [fac, fac, ff_drop ha]
    cases h : ff (s.drop a) p f with
    | none => rfl
    | some q =>
      have := ih (q + p.length)
      rw [← Nat.add_assoc] at this
      exact this
theorem fac_append (s : List Int) : ∀ (a b : List (List Int)) (f : Nat), fac s f (a ++ b) = (fac s f a).bind fun x => fac s x b := by
  intro a
  induction a with
  | nil => intro b f; rfl
  | cons p r ih =>
    intro b f
    rw [List.cons_append, fac, fac]
    cases ff s p f with
    | none => rfl
    | some q => exact ih b _
theorem fs_l0 (s : List Int) (l : List (List Int)) (hs : s.length ≤ 1048576) (hpl : ∀ p ∈ l, p.length ≤ 1048576) (hl : l.length ≤ 1048576) : ∀ d k f K : Nat, k + d = l.length → f ≤ s.length → d + 1 ≤ K → tail_Factors.l0 K s (f : Int) l (l.length : Int) (k : Int) = some (told (fac s f (l.drop k))) := by
  intro d
  induction d with
  | zero =>
    intro k f K hk hf hK
    obtain ⟨K, rfl⟩ : ∃ k', K = k' + 1 := ⟨K - 1, by omega⟩
    rw [tail_Factors.l0, if_neg (by omega), List.drop_of_length_le (by omega)]
    rfl
  | succ d ih =>
    intro k f K hk hf hK
    obtain ⟨K, rfl⟩ : ∃ k', K = k' + 1 := ⟨K - 1, by omega⟩
    have hkl : k < l.length := by omega
    have hp := hpl _ (List.getElem_mem hkl)
    rw [tail_Factors.l0, if_pos (by omega), if_pos (by omega), if_pos (by omega), if_pos (by omega), if_pos (by omega), Int.toNat_natCast, rdL hkl, first_f (by rw [List.length_drop]; omega) hp, Option.bind_some, List.drop_eq_getElem_cons hkl, fac]
    have e := ff_drop (s := s) (p := l[k]) (a := f) (f := 0) hf
    rw [Nat.add_zero] at e
    rw [e]
    cases h : ff (s.drop f) l[k] 0 with
    | none => rfl
    | some q =>
      have hq := (ff_some h).2.1.1
      rw [List.length_drop] at hq
      show (if true = true then _ else _) = _
      rw [if_pos rfl]
      show tail_Factors.l0 K s (wrap64 ((f : Int) + wrap64 ((q : Int) + (l[k].length : Int)))) l (l.length : Int) (wrap64 ((k : Int) + 1)) = some (told (fac s (f + q + l[k].length) (l.drop (k + 1))))
      rw [wrA (i := q) (by omega), wrA (i := f) (by omega), wr1 (by omega), ← Nat.add_assoc]
      exact ih (k + 1) _ K (by omega) (by omega) (by omega)
theorem factors_ok (s : List Int) (l : List (List Int)) (hs : s.length ≤ 1048576) (hpl : ∀ p ∈ l, p.length ≤ 1048576) (hl : l.length ≤ 1048576) {K : Nat} (hK : l.length + 1 ≤ K) : tail_Factors.f K s l = some (told (fac s 0 l)) := by
  unfold tail_Factors.f
  have := fs_l0 s l hs hpl hl l.length 0 0 K (by omega) (by omega) hK
  rw [List.drop_zero] at this
  exact this
theorem TailFactors (s : List Int) (hbs : Byt s) (l : List (List Int)) (hbl : ∀ p ∈ l, Byt p) (hpl : ∀ p ∈ l, p.length ≤ 1048576) : ∃ k, cuecardlaw09_TailFactors.f k s l = some true := by
  refine ⟨100003, ?_⟩
  unfold cuecardlaw09_TailFactors.f
  have hm := mn_nat s.length 200
  have hm' := mn_nat l.length 20
  rw [show ((200 : Nat) : Int) = 200 from rfl] at hm
  rw [show ((20 : Nat) : Int) = 20 from rfl] at hm'
  rw [hm, hm', if_pos (by omega), if_pos (by omega), Option.bind_some, if_pos (by omega), if_pos (by omega), Option.bind_some, Int.toNat_natCast, Int.toNat_natCast]
  have hb := hbs.take (min s.length 200)
  have ht : (s.take (min s.length 200)).length ≤ 200 := by rw [List.length_take]; omega
  generalize s.take (min s.length 200) = t at hb ht ⊢
  have hl : (l.take (min l.length 20)).length ≤ 20 := by rw [List.length_take]; omega
  have hb2 : ∀ p ∈ l.take (min l.length 20), Byt p := fun p hp => hbl p (List.mem_of_mem_take hp)
  have hp2 : ∀ p ∈ l.take (min l.length 20), p.length ≤ 1048576 := fun p hp => hpl p (List.mem_of_mem_take hp)
  generalize l.take (min l.length 20) = r at hl hb2 hp2 ⊢
  have hmul : (t.length + 4) * r.length ≤ 204 * 20 := Nat.mul_le_mul (by omega) hl
  rw [factors_ok t r (by omega) hp2 (by omega) (by omega), Option.bind_some, reffactors_ok t r hb hb2 (by omega) hp2 (by omega) (by omega), Option.bind_some, alive_f, Option.bind_some, if_pos rfl, if_pos rfl]
  simp
theorem TailJoins (s : List Int) (a b : List (List Int)) (hpa : ∀ p ∈ a, p.length ≤ 1048576) (hpb : ∀ p ∈ b, p.length ≤ 1048576) : ∃ k, cuecardlaw09_TailJoins.f k s a b = some true := by
  refine ⟨100003, ?_⟩
  unfold cuecardlaw09_TailJoins.f
  have hm := mn_nat s.length 150
  have hma := mn_nat a.length 8
  have hmb := mn_nat b.length 8
  rw [show ((150 : Nat) : Int) = 150 from rfl] at hm
  rw [show ((8 : Nat) : Int) = 8 from rfl] at hma hmb
  rw [hm, hma, hmb, if_pos (by omega), if_pos (by omega), Option.bind_some, if_pos (by omega), if_pos (by omega), Option.bind_some, if_pos (by omega), if_pos (by omega), Option.bind_some, Int.toNat_natCast, Int.toNat_natCast, Int.toNat_natCast]
  have ht : (s.take (min s.length 150)).length ≤ 150 := by rw [List.length_take]; omega
  generalize s.take (min s.length 150) = t at ht ⊢
  have hla : (a.take (min a.length 8)).length ≤ 8 := by rw [List.length_take]; omega
  have hpa2 : ∀ p ∈ a.take (min a.length 8), p.length ≤ 1048576 := fun p hp => hpa p (List.mem_of_mem_take hp)
  generalize a.take (min a.length 8) = x at hla hpa2 ⊢
  have hlb : (b.take (min b.length 8)).length ≤ 8 := by rw [List.length_take]; omega
  have hpb2 : ∀ p ∈ b.take (min b.length 8), p.length ≤ 1048576 := fun p hp => hpb p (List.mem_of_mem_take hp)
  generalize b.take (min b.length 8) = y at hlb hpb2 ⊢
  have hxy : ∀ p ∈ x ++ y, p.length ≤ 1048576 := fun p hp => (List.mem_append.1 hp).elim (hpa2 p) (hpb2 p)
  rw [factors_ok t x (by omega) hpa2 (by omega) (by omega), Option.bind_some, Option.bind_some, if_pos (by simp; omega), Option.bind_some, List.nil_append, if_pos (by omega),
    factors_ok t (x ++ y) (by omega) hxy (by rw [List.length_append]; omega) (by rw [List.length_append]; omega), Option.bind_some, fac_append]
  cases hf : fac t 0 x with
  | none =>
    show (if false = true then _ else _) = some true
    rw [if_neg (by decide), alive_f, Option.bind_some, if_pos rfl]
    rfl
  | some i =>
    have hi := (fac_bound hf (Nat.zero_le _)).2
    rw [Option.bind_some]
    have e := fac_drop (s := t) (a := i) hi y 0
    rw [Nat.add_zero] at e
    rw [e]
    show (if true = true then (if ((i : Nat) : Int) < 0 then _ else cuecardlaw09_TailJoins.j0 100003 t y (i : Int) (told ((fac (t.drop i) 0 y).map fun j => i + j)).1 (told ((fac (t.drop i) 0 y).map fun j => i + j)).2 (decide ((i : Int) > (t.length : Int)))) else _) = some true
    rw [if_pos rfl, if_neg (by omega), decide_eq_false (by omega), cuecardlaw09_TailJoins.j0, if_neg (by decide), if_pos (by omega), if_pos (by omega), Int.toNat_natCast, factors_ok (t.drop i) y (by rw [List.length_drop]; omega) hpb2 (by omega) (by omega), Option.bind_some, alive_f, Option.bind_some, if_pos rfl]
    cases hg : fac (t.drop i) 0 y with
    | none => rfl
    | some j =>
      have hj := (fac_bound hg (Nat.zero_le _)).2
      rw [List.length_drop] at hj
      show (if (true == true) = true then (if true = true then some (((i + j : Nat) : Int) == wrap64 ((i : Int) + (j : Int))) else some true) else some false) = some true
      rw [wrA (by omega)]
      simp
end Go.Proofs.Ytdeoingjkomdcaa.QA
