import Derived.Test.YtefippbcgdfnbaaGT3
import Derived.Test.YtefippbcgdfnbaaQAx28
namespace Go.Proofs.Ytefippbcgdfnbaa.QA
open Go.RowKit Go.Proofs.YtefippbcgdfnbaaW.PrintWords Go.Proofs.YtefippbcgdfnbaaW.PrintLast Go.Proofs.YtefippbcgdfnbaaW.PrintMore
set_option linter.unusedVariables false
set_option linter.unusedSimpArgs false
theorem TransBack (l : List S43) (hs : small l) (hin : ∀ x ∈ l, In1 x) (b : Bool) : ∃ k, cuecardlaw05_TransBack.f k l b = some true := by
  have hl := small_tot hs
  refine ⟨2 * l.length + 4 * 1048576, ?_⟩
  unfold cuecardlaw05_TransBack.f
  rw [enc_f l hs b (by omega)]
  simp only [Option.bind_some]
  by_cases h : chkV l = 0
  · have g := (chkV_zero l).1 h
    have := trn_len g b
    simp only [h, if_true]
    rw [dec_trn g hin b (by omega)]
    simp only [Option.bind_some, cuecardlaw05_alive.f, if_true, cuecardlaw05_same.f]
    rw [refsame_f l l (by omega) (by omega), same_self]
    simp
  · simp only [h, if_false]
    rw [refchk_f l hs (by omega)]
    simp [cuecardlaw05_alive.f, h]
end Go.Proofs.Ytefippbcgdfnbaa.QA
