import Derived.Lib.Bytes
import Derived.Laws.BytesArg
import Derived.KernelRfl
import Derived.Test.YtdeoingjkomdcaaGAlive
import Derived.Test.YtdeoingjkomdcaaQAx6
import Derived.Test.YtdeoingjkomdcaaGEnds
import Derived.Test.YtdeoingjkomdcaaQAx7
import Derived.Test.YtdeoingjkomdcaaGPieces2
import Derived.Test.YtdeoingjkomdcaaQAx9
namespace Go.Proofs.Ytdeoingjkomdcaa.QA
open Go.RowKit Go.Proofs.YtdeoingjkomdcaaW.PrintWords Go.Proofs.YtdeoingjkomdcaaW.PrintLast Go.Proofs.YtdeoingjkomdcaaW.PrintMore
set_option linter.unusedVariables false
set_option linter.unusedSimpArgs false
/-! ### the document's Factors -/
def St (s p : List Int) (i : Nat) : Prop := i + p.length ≤ s.length ∧ (s.drop i).take p.length = p
instance (s p : List Int) (i : Nat) : Decidable (St s p i) := inferInstanceAs (Decidable (_ ∧ _))
def firstFrom (s p : List Int) : Nat → Nat → Option Nat
  | 0, _ => none
  | d + 1, i => if St s p i then some i else firstFrom s p d (i + 1)
def ff (s p : List Int) (i : Nat) : Option Nat := firstFrom s p (s.length + 1 - i) i
def fac (s : List Int) : Nat → List (List Int) → Option Nat
  | f, [] => some f
  | f, p :: r => (ff s p f).bind fun i => fac s (i + p.length) r
theorem firstFrom_some {s p : List Int} : ∀ {d i q : Nat}, firstFrom s p d i = some q → i ≤ q ∧ St s p q ∧ ∀ j, i ≤ j → j < q → ¬ St s p j := by
  intro d
  induction d with
  | zero => intro i q h; cases h
  | succ d ih =>
    intro i q h
    rw [firstFrom] at h
    by_cases hs : St s p i
    · rw [if_pos hs] at h
      obtain rfl := Option.some.inj h
      exact ⟨Nat.le_refl _, hs, fun j h1 h2 => by omega⟩
    · rw [if_neg hs] at h
      obtain ⟨h1, h2, h3⟩ := ih h
      refine ⟨by omega, h2, fun j j1 j2 => ?_⟩
      rcases Nat.lt_or_ge i j with hj | hj
      · exact h3 j hj j2
      · obtain rfl : j = i := by omega
        exact hs
theorem firstFrom_none {s p : List Int} : ∀ {d i : Nat}, firstFrom s p d i = none → ∀ j, i ≤ j → j < i + d → ¬ St s p j := by
  intro d
  induction d with
  | zero => intro i _ j h1 h2; omega
  | succ d ih =>
    intro i h j h1 h2
    rw [firstFrom] at h
    by_cases hs : St s p i
    · rw [if_pos hs] at h; cases h
    · rw [if_neg hs] at h
      rcases Nat.lt_or_ge i j with hj | hj
      · exact ih h j hj (by omega)
      · obtain rfl : j = i := by omega
        exact hs
theorem firstFrom_is {s p : List Int} : ∀ {d i q : Nat}, i ≤ q → q < i + d → St s p q → (∀ j, i ≤ j → j < q → ¬ St s p j) → firstFrom s p d i = some q := by
  intro d
  induction d with
  | zero => intro i q h1 h2; omega
  | succ d ih =>
    intro i q h1 h2 hs hn
    rw [firstFrom]
    rcases Nat.lt_or_ge i q with h | h
    · rw [if_neg (hn i (Nat.le_refl _) h)]
      exact ih h (by omega) hs (fun j j1 j2 => hn j (by omega) j2)
    · obtain rfl : i = q := by omega
      rw [if_pos hs]
theorem ff_some {s p : List Int} {i q : Nat} (h : ff s p i = some q) : i ≤ q ∧ St s p q ∧ ∀ j, i ≤ j → j < q → ¬ St s p j := firstFrom_some h
theorem ff_none {s p : List Int} {i : Nat} (h : ff s p i = none) (j : Nat) (hj : i ≤ j) : ¬ St s p j := fun hs => by
  have := hs.1
  exact firstFrom_none h j hj (by omega) hs
theorem ff_is {s p : List Int} {i q : Nat} (h1 : i ≤ q) (hs : St s p q) (hn : ∀ j, i ≤ j → j < q → ¬ St s p j) : ff s p i = some q :=
  firstFrom_is h1 (by have := hs.1; omega) hs hn
theorem ff_is_none {s p : List Int} {i : Nat} (hn : ∀ j, i ≤ j → ¬ St s p j) : ff s p i = none := by
  cases h : ff s p i with
  | none => rfl
  | some q => exact absurd (ff_some h).2.1 (hn q (ff_some h).1)
theorem fac_bound {s : List Int} : ∀ {l : List (List Int)} {f x : Nat}, fac s f l = some x → f ≤ s.length → f + l.flatten.length ≤ x ∧ x ≤ s.length := by
  intro l
  induction l with
  | nil =>
    intro f x h hf
    obtain rfl := Option.some.inj h
    simp [hf]
  | cons p r ih =>
    intro f x h hf
    rw [fac, Option.bind_eq_some_iff] at h
    obtain ⟨q, h1, h2⟩ := h
    obtain ⟨g1, g2, _⟩ := ff_some h1
    have := g2.1
    obtain ⟨k1, k2⟩ := ih h2 (by omega)
    rw [List.flatten_cons, List.length_append]
    omega
theorem fac_prefix (rest : List Int) : ∀ (l : List (List Int)) (pre : List Int), fac (pre ++ (l.flatten ++ rest)) pre.length l = some (pre.length + l.flatten.length) := by
  intro l
  induction l with
  | nil => intro pre; rfl
  | cons p r ih =>
    intro pre
    have hst : St (pre ++ ((p :: r).flatten ++ rest)) p pre.length := by
      rw [List.flatten_cons]
      refine ⟨by first | (simp; done) | (simp; omega), ?_⟩
      rw [List.drop_left, List.append_assoc, List.take_left]
    rw [fac, ff_is (Nat.le_refl _) hst (fun j h1 h2 => by omega), Option.bind_some]
    have := ih (pre ++ p)
    rw [List.length_append] at this
    rw [List.flatten_cons, List.length_append, ← Nat.add_assoc, ← this]
    simp only [List.append_assoc]
theorem rf_l1 (s : List Int) (l : List (List Int)) (hbs : Byt s) (hbl : ∀ p ∈ l, Byt p) (hs : s.length ≤ 1048576) (hpl : ∀ p ∈ l, p.length ≤ 1048576) (hl : l.length ≤ 1048576) {k : Nat} (hk : k < l.length) (N : Nat) (R : Option (Int × Bool)) :
    ∀ d i K : Nat, i + d = s.length + 1 → (∀ q K', N ≤ K' → firstFrom s l[k] d i = some q → cuecardref09_Factors.l0 K' s l ((q + l[k].length : Nat) : Int) ((k + 1 : Nat) : Int) = R) → (firstFrom s l[k] d i = none → some (0, false) = R) → N + d + 1 ≤ K → cuecardref09_Factors.l1 K s l (k : Int) (i : Int) = R := by
  have hm : l[k] ∈ l := List.getElem_mem hk
  have hp := hpl _ hm
  intro d
  induction d with
  | zero =>
    intro i K hi h1 h2 hK
    obtain ⟨K, rfl⟩ : ∃ k', K = k' + 1 := ⟨K - 1, by omega⟩
    rw [cuecardref09_Factors.l1, if_neg (by omega), if_pos (by omega)]
    exact h2 rfl
  | succ d ih =>
    intro i K hi h1 h2 hK
    obtain ⟨K, rfl⟩ : ∃ k', K = k' + 1 := ⟨K - 1, by omega⟩
    rw [firstFrom] at h1 h2
    rw [cuecardref09_Factors.l1, if_pos (by omega), if_pos (by omega), if_pos (by omega), rdL hk, at9_f hbs (hbl _ hm) hs hp (by omega), Option.bind_some]
    by_cases hst : St s l[k] i
    · have hst' : i + l[k].length ≤ s.length ∧ (s.drop i).take l[k].length = l[k] := hst
      have := hst'.1
      rw [if_pos (decide_eq_true hst'), if_neg (by omega), wr1 (i := k) (by omega), wrA (i := i) (by omega)]
      exact h1 i K (by omega) (by rw [if_pos hst])
    · have hst' : ¬ (i + l[k].length ≤ s.length ∧ (s.drop i).take l[k].length = l[k]) := hst
      rw [if_neg (by rw [decide_eq_false hst']; decide), wr1 (i := i) (by omega)]
      refine ih (i + 1) K (by omega) (fun q K' hK' hq => h1 q K' hK' (by rw [if_neg hst]; exact hq)) (fun hq => h2 (by rw [if_neg hst]; exact hq)) (by omega)
def told (o : Option Nat) : Int × Bool := match o with | some x => ((x : Int), true) | none => (0, false)
theorem rf_l0 (s : List Int) (l : List (List Int)) (hbs : Byt s) (hbl : ∀ p ∈ l, Byt p) (hs : s.length ≤ 1048576) (hpl : ∀ p ∈ l, p.length ≤ 1048576) (hl : l.length ≤ 1048576) : ∀ d k f K : Nat, k + d = l.length → f ≤ s.length → (s.length + 4) * d + 1 ≤ K → cuecardref09_Factors.l0 K s l (f : Int) (k : Int) = some (told (fac s f (l.drop k))) := by
  intro d
  induction d with
  | zero =>
    intro k f K hk hf hK
    obtain ⟨K, rfl⟩ : ∃ k', K = k' + 1 := ⟨K - 1, by omega⟩
    rw [cuecardref09_Factors.l0, if_neg (by omega), List.drop_of_length_le (by omega)]
    rfl
  | succ d ih =>
    intro k f K hk hf hK
    rw [Nat.mul_succ] at hK
    obtain ⟨K, rfl⟩ : ∃ k', K = k' + 1 := ⟨K - 1, by omega⟩
    have hkl : k < l.length := by omega
    rw [cuecardref09_Factors.l0, if_pos (by omega), List.drop_eq_getElem_cons hkl, fac]
    refine rf_l1 s l hbs hbl hs hpl hl hkl ((s.length + 4) * d + 1) _ (s.length + 1 - f) f K (by omega) (fun q K' hK' hq => ?_) (fun hq => ?_) (by omega)
    · have hq' : ff s l[k] f = some q := hq
      have := (ff_some hq').2.1.1
      rw [hq', Option.bind_some]
      exact ih (k + 1) _ K' (by omega) (by omega) hK'
    · have hq' : ff s l[k] f = none := hq
      rw [hq', Option.bind_none]
      rfl
theorem reffactors_ok (s : List Int) (l : List (List Int)) (hbs : Byt s) (hbl : ∀ p ∈ l, Byt p) (hs : s.length ≤ 1048576) (hpl : ∀ p ∈ l, p.length ≤ 1048576) (hl : l.length ≤ 1048576) {K : Nat} (hK : (s.length + 4) * l.length + 1 ≤ K) : cuecardref09_Factors.f K s l = some (told (fac s 0 l)) := by
  unfold cuecardref09_Factors.f
  have := rf_l0 s l hbs hbl hs hpl hl l.length 0 0 K (by omega) (by omega) hK
  rw [List.drop_zero] at this
  exact this
end Go.Proofs.Ytdeoingjkomdcaa.QA
