import Derived.Test.YtjcaflhlilckgaaOpen
import Derived.Test.YtjcaflhlilckgaaPTurns
import Derived.KernelRfl
namespace Go.Proofs.Ytjcaflhlilckgaa.QA
open Go.RowKit Go.Proofs.YtjcaflhlilckgaaW.PrintWords
set_option linter.unusedVariables false
set_option linter.unusedSimpArgs false
/-! ### a slice of events that comes in -/
def okEv (x : S37) : Prop := (Lit.int .i64 x.f0).wf = true ∧ (Lit.int .i64 x.f1).wf = true ∧ x.f2.length ≤ maxLen ∧ ∀ b ∈ x.f2, (Lit.int .u8 b).wf = true
def wtEv (x : S37) : Nat := 1 + 1 + ((x.f2.map fun _ => 1).sum + 1) + 1
theorem opnEv : Opn Try.prog k37 37 okEv wtEv :=
  Opn.iso (Opn.struct3 (a := Kd.int .i64) (b := Kd.int .i64) (c := Kd.slice 5 (Kd.int .u8)) Try.underlying37 (by kernel_rfl) rfl rfl rfl (Opn.int Try.underlying3 (by kernel_rfl)) (Opn.int Try.underlying2 (by kernel_rfl)) (Opn.slice Try.underlying31 (by kernel_rfl) (Opn.int Try.underlying5 (by kernel_rfl))))
    (fun x : S37 => (x.f0, x.f1, x.f2)) (fun p => ⟨p.1, p.2.1, p.2.2⟩) (fun _ => rfl)
theorem opnEvs : Opn Try.prog (Kd.slice 37 k37) 22 (fun l => l.length ≤ maxLen ∧ ∀ x ∈ l, okEv x) (fun l => (l.map wtEv).sum + 1) := Opn.slice Try.underlying22 (by kernel_rfl) opnEv
theorem small_of {l : List S37} (h : (l.map wtEv).sum + 1 ≤ 1048576) : small l := by
  have e : ∀ b : List Int, (b.map fun _ => 1).sum = b.length := fun b => by
    induction b with
    | nil => rfl
    | cons a r ih => simp [ih]; omega
  have e2 : (fun x : S37 => x.f2.length + 4) = wtEv := by
    funext x
    unfold wtEv
    rw [e]
    omega
  unfold small
  rw [e2]
  omega
theorem v_of_evs {w : World} {A : Option Addr} {c base : Nat} {l : List S37} (h : Kd.C k37 w A l.length l) (hc : l.length ≤ c) : Kd.V k37 37 w base (fun _ => True) (.slice A l.length c) l := Kd.V_mk hc (fun _ hW => heap37.C (fun k hlt => hW k trivial hlt) h)
theorem opnInts : Opn Try.prog (Kd.slice 3 (Kd.int .i64)) 35 (fun l => l.length ≤ maxLen ∧ ∀ x ∈ l, (Lit.int .i64 x).wf = true) (fun l => (l.map fun _ => 1).sum + 1) := Opn.slice Try.underlying35 (by kernel_rfl) (Opn.int Try.underlying3 (by kernel_rfl))
end Go.Proofs.Ytjcaflhlilckgaa.QA
