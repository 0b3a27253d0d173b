import Derived.Test.YtjcaflhlilckgaaOpen
import Derived.Test.YtjcaflhlilckgaaPEvents
import Derived.KernelRfl
namespace Go.Proofs.Ytjcaflhlilckgaa.QA
open Go.RowKit Go.Proofs.YtjcaflhlilckgaaW.PrintWords
set_option linter.unusedVariables false
set_option linter.unusedSimpArgs false
def okTu (x : S33) : Prop := (x.f0.length ≤ maxLen ∧ ∀ b ∈ x.f0, (Lit.int .u8 b).wf = true) ∧ (x.f1.length ≤ maxLen ∧ ∀ b ∈ x.f1, (Lit.int .u8 b).wf = true)
def wtTu (x : S33) : Nat := ((x.f0.map fun _ => 1).sum + 1) + ((x.f1.map fun _ => 1).sum + 1) + 1
theorem opnTu : Opn Try.prog k33 33 okTu wtTu :=
  Opn.iso (Opn.struct2 (a := Kd.slice 5 (Kd.int .u8)) (b := Kd.slice 5 (Kd.int .u8)) Try.underlying33 (by kernel_rfl) rfl rfl (Opn.slice Try.underlying31 (by kernel_rfl) (Opn.int Try.underlying5 (by kernel_rfl))) (Opn.slice Try.underlying31 (by kernel_rfl) (Opn.int Try.underlying5 (by kernel_rfl))))
    (fun x : S33 => (x.f0, x.f1)) (fun p => ⟨p.1, p.2⟩) (fun _ => rfl)
theorem opnTus : Opn Try.prog (Kd.slice 33 k33) 24 (fun l => l.length ≤ maxLen ∧ ∀ x ∈ l, okTu x) (fun l => (l.map wtTu).sum + 1) := Opn.slice Try.underlying24 (by kernel_rfl) opnTu
theorem smallT_of {l : List S33} (h : (l.map wtTu).sum + 1 ≤ 1048576) : smallT l := by
  have e : ∀ b : List Int, (b.map fun _ => 1).sum = b.length := fun b => by
    induction b with
    | nil => rfl
    | cons a r ih => simp [ih]; omega
  have e2 : (fun x : S33 => x.f0.length + x.f1.length + 3) = wtTu := by
    funext x
    unfold wtTu
    rw [e, e]
    omega
  unfold smallT
  rw [e2]
  omega
theorem i64_of1 {x : Int} (h : (Lit.int .i64 x).wf = true) : -9223372036854775808 ≤ x ∧ x ≤ 9223372036854775807 := by
  simp only [Lit.wf, IntKind.min, IntKind.max, IntKind.signed, IntKind.bits, Bool.and_eq_true] at h
  simp at h
  omega
end Go.Proofs.Ytjcaflhlilckgaa.QA
