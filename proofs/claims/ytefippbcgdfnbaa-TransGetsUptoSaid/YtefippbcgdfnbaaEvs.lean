import Derived.Test.YtefippbcgdfnbaaOpen
import Derived.Test.YtefippbcgdfnbaaGEv
import Derived.KernelRfl
namespace Go.Proofs.Ytefippbcgdfnbaa.QA
open Go.RowKit Go.Proofs.YtefippbcgdfnbaaW.PrintWords
set_option linter.unusedVariables false
set_option linter.unusedSimpArgs false
/-! ### a slice of events that comes in -/
def okEv (x : S43) : Prop := (Lit.int .i64 x.f0).wf = true ∧ (Lit.int .i64 x.f1).wf = true ∧ x.f2.length ≤ maxLen ∧ ∀ b ∈ x.f2, (Lit.int .u8 b).wf = true
def wtEv (x : S43) : Nat := 1 + 1 + ((x.f2.map fun _ => 1).sum + 1) + 1
theorem opnEv : Opn Try.prog k43 43 okEv wtEv :=
  Opn.iso (Opn.struct3 (a := Kd.int .i64) (b := Kd.int .i64) (c := Kd.slice 5 (Kd.int .u8)) Try.underlying43 (by kernel_rfl) rfl rfl rfl (Opn.int Try.underlying3 (by kernel_rfl)) (Opn.int Try.underlying2 (by kernel_rfl)) (Opn.slice Try.underlying25 (by kernel_rfl) (Opn.int Try.underlying5 (by kernel_rfl))))
    (fun x : S43 => (x.f0, x.f1, x.f2)) (fun p => ⟨p.1, p.2.1, p.2.2⟩) (fun _ => rfl)
theorem opnEvs : Opn Try.prog (Kd.slice 43 k43) 22 (fun l => l.length ≤ maxLen ∧ ∀ x ∈ l, okEv x) (fun l => (l.map wtEv).sum + 1) := Opn.slice Try.underlying22 (by kernel_rfl) opnEv
theorem small_of {l : List S43} (h : (l.map wtEv).sum + 1 ≤ 1048576) : small l := by
  have e : ∀ b : List Int, (b.map fun _ => 1).sum = b.length := fun b => by
    induction b with
    | nil => rfl
    | cons a r ih => simp [ih]; omega
  have e2 : (fun x : S43 => x.f2.length + 4) = wtEv := by
    funext x
    unfold wtEv
    rw [e]
    omega
  unfold small
  rw [e2]
  omega
theorem opnBytes : Opn Try.prog (Kd.slice 5 (Kd.int .u8)) 25 (fun l => l.length ≤ maxLen ∧ ∀ x ∈ l, (Lit.int .u8 x).wf = true) (fun l => (l.map fun _ => 1).sum + 1) := Opn.slice Try.underlying25 (by kernel_rfl) (Opn.int Try.underlying5 (by kernel_rfl))
theorem heap43 : Kd.Heap k43 := Kd.heap_iso _ (Kd.heap_pair (Kd.heap_int _) (Kd.heap_pair (Kd.heap_int _) (Kd.heap_slice _ (Kd.heap_int _))))
theorem v_of_evs {w : World} {A : Option Addr} {c base : Nat} {l : List S43} (h : Kd.C k43 w A l.length l) (hc : l.length ≤ c) : Kd.V k43 43 w base (fun _ => True) (.slice A l.length c) l := Kd.V_mk hc (fun _ hW => heap43.C (fun k hlt => hW k trivial hlt) h)
theorem v_of_byt {w : World} {A : Option Addr} {c base : Nat} {l : List Int} (h : (Kd.int .u8).C w A l.length l) (hc : l.length ≤ c) : Kd.V (Kd.int .u8) 5 w base (fun _ => True) (.slice A l.length c) l := Kd.V_mk hc (fun _ hW => (Kd.heap_int _).C (fun k hlt => hW k trivial hlt) h)
theorem byt_of1 {x : Int} (h : (Lit.int .u8 x).wf = true) : 0 ≤ x ∧ x < 256 := by
  simp only [Lit.wf, IntKind.min, IntKind.max, IntKind.signed, IntKind.bits, Bool.and_eq_true] at h
  simp at h
  omega
theorem i64_of1 {x : Int} (h : (Lit.int .i64 x).wf = true) : -9223372036854775808 ≤ x ∧ x ≤ 9223372036854775807 := by
  simp only [Lit.wf, IntKind.min, IntKind.max, IntKind.signed, IntKind.bits, Bool.and_eq_true] at h
  simp at h
  omega
theorem byt_of {l : List Int} (h : ∀ x ∈ l, (Lit.int .u8 x).wf = true) : ∀ x ∈ l, 0 ≤ x ∧ x < 256 := fun x hx => byt_of1 (h x hx)
theorem in1_of {l : List S43} (h : ∀ x ∈ l, okEv x) : ∀ x ∈ l, (-9223372036854775808 ≤ x.f1 ∧ x.f1 ≤ 9223372036854775807) ∧ ∀ c ∈ x.f2, 0 ≤ c ∧ c < 256 := fun x hx => ⟨i64_of1 (h x hx).2.1, byt_of (h x hx).2.2.2⟩
theorem len_of {l : List Int} (h : (l.map fun _ => 1).sum + 1 ≤ 1048576) : l.length ≤ 1048576 := by
  have e : (l.map fun _ => 1).sum = l.length := by
    clear h
    induction l with
    | nil => rfl
    | cons a r ih => simp [ih]; omega
  omega
end Go.Proofs.Ytefippbcgdfnbaa.QA
