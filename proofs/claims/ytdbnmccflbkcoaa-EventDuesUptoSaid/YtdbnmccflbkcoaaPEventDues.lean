/- What is proved here: the plain law EventDues, over the printed functions; condition: the events are small. -/
import Derived.Test.YtdbnmccflbkcoaaQAx5
import Derived.Test.YtdbnmccflbkcoaaPlain
namespace Go.Proofs.Ytdbnmccflbkcoaa.QA
open Go.RowKit Go.Proofs.YtdbnmccflbkcoaaW.PrintWords
set_option linter.unusedVariables false
set_option linter.unusedSimpArgs false
theorem EventDues (l : List S32) (told : Int) (hl : small l) (ht : (Lit.int .i64 told).wf = true) : ∃ k, cuecardlaw04_EventDues.f k l told = some true := by
  have hs := small_tot hl
  have hw := i64_of_wf ht
  refine ⟨l.length + 10, ?_⟩
  have hj : ∀ b : Bool, b = false → cuecardlaw04_EventDues.j0 (l.length + 10) l b = some true := by
    rintro _ rfl
    simp only [cuecardlaw04_EventDues.j0, cuecardlaw04_alive.f, Option.bind_some, if_true, Bool.false_eq_true, if_false]
    rw [refbytes_f 1 l hl _ (by omega)]
    simp only [Option.bind_some]
    rw [due_f _ l hl _ (by omega)]
    simp only [Option.bind_some]
    rw [refbytes_f 0 l hl _ (by omega)]
    simp only [Option.bind_some]
    rw [due_all _ l 0 0 (by omega), Nat.zero_add]
    simp
  unfold cuecardlaw04_EventDues.f
  rw [due_f told l hl _ (by omega)]
  simp only [Option.bind_some]
  rw [refdue_f told l hl _ (by omega)]
  simp only [Option.bind_some]
  rw [if_pos (by rw [due_eq])]
  by_cases h : told < 4611686018427387904
  · rw [if_pos h, due_f _ l hl _ (by omega)]
    simp only [Option.bind_some]
    refine hj _ (decide_eq_false ?_)
    have hmono := due_mono (show told ≤ wrap64 (told + 1) by unfold wrap64; omega) l 0 0
    omega
  · rw [if_neg h]
    exact hj false rfl
end Go.Proofs.Ytdbnmccflbkcoaa.QA
