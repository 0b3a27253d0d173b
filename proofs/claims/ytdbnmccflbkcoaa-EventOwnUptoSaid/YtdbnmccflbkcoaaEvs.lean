/- What is proved here: a slice of events that comes in can be read as a list, and is small where its bulk is. -/
import Derived.Test.YtdbnmccflbkcoaaOpen
import Derived.Test.YtdbnmccflbkcoaaPlain
import Derived.KernelRfl
namespace Go.Proofs.Ytdbnmccflbkcoaa.QA
open Go.RowKit Go.Proofs.YtdbnmccflbkcoaaW.PrintWords
set_option linter.unusedVariables false
set_option linter.unusedSimpArgs false
/-! ### a slice of events that comes in -/
def okEv (x : S32) : Prop := (Lit.int .i64 x.f0).wf = true ∧ (Lit.int .i64 x.f1).wf = true ∧ x.f2.length ≤ maxLen ∧ ∀ b ∈ x.f2, (Lit.int .u8 b).wf = true
def wtEv (x : S32) : Nat := 1 + 1 + ((x.f2.map fun _ => 1).sum + 1) + 1
theorem opnEv : Opn Try.prog k32 32 okEv wtEv :=
  Opn.iso (Opn.struct3 (a := Kd.int .i64) (b := Kd.int .i64) (c := Kd.slice 5 (Kd.int .u8)) Try.underlying32 (by kernel_rfl) rfl rfl rfl (Opn.int Try.underlying3 (by kernel_rfl)) (Opn.int Try.underlying2 (by kernel_rfl)) (Opn.slice Try.underlying26 (by kernel_rfl) (Opn.int Try.underlying5 (by kernel_rfl))))
    (fun x : S32 => (x.f0, x.f1, x.f2)) (fun p => ⟨p.1, p.2.1, p.2.2⟩) (fun _ => rfl)
theorem opnEvs : Opn Try.prog (Kd.slice 32 k32) 22 (fun l => l.length ≤ maxLen ∧ ∀ x ∈ l, okEv x) (fun l => (l.map wtEv).sum + 1) := Opn.slice Try.underlying22 (by kernel_rfl) opnEv
theorem small_of {l : List S32} (h : (l.map wtEv).sum + 1 ≤ 1048576) : small l := by
  have e : ∀ b : List Int, (b.map fun _ => 1).sum = b.length := fun b => by
    induction b with
    | nil => rfl
    | cons a r ih => simp [ih]; omega
  have e2 : (fun x : S32 => x.f2.length + 4) = wtEv := by
    funext x
    unfold wtEv
    rw [e]
    omega
  unfold small
  rw [e2]
  omega
theorem heap32 : Kd.Heap k32 := Kd.heap_iso _ (Kd.heap_pair (Kd.heap_int _) (Kd.heap_pair (Kd.heap_int _) (Kd.heap_slice _ (Kd.heap_int _))))
theorem v_of_evs {w : World} {A : Option Addr} {c base : Nat} {l : List S32} (h : Kd.C k32 w A l.length l) (hc : l.length ≤ c) : Kd.V k32 32 w base (fun _ => True) (.slice A l.length c) l := Kd.V_mk hc (fun _ hW => heap32.C (fun k hlt => hW k trivial hlt) h)
end Go.Proofs.Ytdbnmccflbkcoaa.QA
