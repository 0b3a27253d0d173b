import Derived.Test.YtpcednpkkimehaaOpen
import Derived.Test.YtpcednpkkimehaaPPl
import Derived.KernelRfl
namespace Go.Proofs.Ytpcednpkkimehaa.QA
open Go.RowKit Go.Proofs.YtpcednpkkimehaaW.PrintWords
set_option linter.unusedVariables false
set_option linter.unusedSimpArgs false
/-! ### what comes in: events, transcripts, bytes, acts -/
def okEv (x : S40) : Prop := (Lit.int .i64 x.f0).wf = true ∧ (Lit.int .i64 x.f1).wf = true ∧ x.f2.length ≤ maxLen ∧ ∀ b ∈ x.f2, (Lit.int .u8 b).wf = true
def wtEv (x : S40) : Nat := 1 + 1 + ((x.f2.map fun _ => 1).sum + 1) + 1
theorem opnEv : Opn Try.prog k40 40 okEv wtEv :=
  Opn.iso (Opn.struct3 (a := Kd.int .i64) (b := Kd.int .i64) (c := Kd.slice 5 (Kd.int .u8)) Try.underlying40 (by kernel_rfl) rfl rfl rfl (Opn.int Try.underlying3 (by kernel_rfl)) (Opn.int Try.underlying2 (by kernel_rfl)) (Opn.slice Try.underlying31 (by kernel_rfl) (Opn.int Try.underlying5 (by kernel_rfl))))
    (fun x : S40 => (x.f0, x.f1, x.f2)) (fun p => ⟨p.1, p.2.1, p.2.2⟩) (fun _ => rfl)
theorem opnEvs : Opn Try.prog (Kd.slice 40 k40) 22 (fun l => l.length ≤ maxLen ∧ ∀ x ∈ l, okEv x) (fun l => (l.map wtEv).sum + 1) := Opn.slice Try.underlying22 (by kernel_rfl) opnEv
theorem opnBytes : Opn Try.prog (Kd.slice 5 (Kd.int .u8)) 31 (fun l => l.length ≤ maxLen ∧ ∀ x ∈ l, (Lit.int .u8 x).wf = true) (fun l => (l.map fun _ => 1).sum + 1) := Opn.slice Try.underlying31 (by kernel_rfl) (Opn.int Try.underlying5 (by kernel_rfl))
def okAct (x : S42) : Prop := (Lit.int .i64 x.f0).wf = true ∧ (Lit.int .i64 x.f1).wf = true ∧ x.f2.length ≤ maxLen ∧ ∀ b ∈ x.f2, (Lit.int .u8 b).wf = true
def wtAct (x : S42) : Nat := 1 + 1 + ((x.f2.map fun _ => 1).sum + 1) + 1
theorem opnAct : Opn Try.prog k42 42 okAct wtAct :=
  Opn.iso (Opn.struct3 (a := Kd.int .i64) (b := Kd.int .i64) (c := Kd.slice 5 (Kd.int .u8)) Try.underlying42 (by kernel_rfl) rfl rfl rfl (Opn.int Try.underlying3 (by kernel_rfl)) (Opn.int Try.underlying3 (by kernel_rfl)) (Opn.slice Try.underlying31 (by kernel_rfl) (Opn.int Try.underlying5 (by kernel_rfl))))
    (fun x : S42 => (x.f0, x.f1, x.f2)) (fun p => ⟨p.1, p.2.1, p.2.2⟩) (fun _ => rfl)
theorem opnActs : Opn Try.prog (Kd.slice 42 k42) 37 (fun l => l.length ≤ maxLen ∧ ∀ x ∈ l, okAct x) (fun l => (l.map wtAct).sum + 1) := Opn.slice Try.underlying37 (by kernel_rfl) opnAct
/-- a transcript -/
abbrev kTr : Kd (List S40 × Bool) := Kd.pair (Kd.slice 40 k40) Kd.bool
theorem opnTr : Opn Try.prog kTr 24 (fun x => (x.1.length ≤ maxLen ∧ ∀ e ∈ x.1, okEv e) ∧ True) (fun x => ((x.1.map wtEv).sum + 1) + 1 + 1) :=
  Opn.struct2 (a := Kd.slice 40 k40) (b := Kd.bool) Try.underlying24 (by kernel_rfl) rfl rfl opnEvs (Opn.bool Try.underlying4 (by kernel_rfl))
theorem kTr_open {w : World} {x : List S40 × Bool} {cs : List Value} (h : kTr.K w x cs) : ∃ A c, cs = [.slice A x.1.length c, .bool x.2] ∧ x.1.length ≤ c ∧ Kd.C k40 w A x.1.length x.1 := by
  obtain ⟨_, _, rfl, ⟨A, c, rfl, l2, g2⟩, rfl⟩ := h
  exact ⟨A, c, rfl, l2, g2⟩
theorem sum_ones (l : List Int) : (l.map fun _ => 1).sum = l.length := by
  induction l with
  | nil => rfl
  | cons a r ih => simp [ih]; omega
theorem small_wt {l : List S40} (h : (l.map wtEv).sum ≤ 1048576) : small l := by
  have e2 : (fun x : S40 => x.f2.length + 4) = wtEv := by
    funext x
    unfold wtEv
    rw [sum_ones]
    omega
  unfold small
  rw [e2]
  exact h
theorem byt_wf {l : List Int} (h : ∀ x ∈ l, (Lit.int .u8 x).wf = true) : ∀ x ∈ l, 0 ≤ x ∧ x < 256 := fun x hx => by
  have := h x hx
  simp [Lit.wf] at this
  have e1 : IntKind.u8.min = 0 := by decide
  have e2 : IntKind.u8.max = 255 := by decide
  omega
theorem way_byt {l : List S40} (h : ∀ e ∈ l, okEv e) (d : Int) : ∀ x ∈ way d l, 0 ≤ x ∧ x < 256 := fun x hx => by
  unfold way at hx
  obtain ⟨e, he, hxe⟩ := List.mem_flatMap.1 hx
  exact byt_wf (h e (List.mem_filter.1 he).1).2.2.2 x hxe
end Go.Proofs.Ytpcednpkkimehaa.QA
