import Derived.Test.YtefippbcgdfnbaaGT1
import Derived.Test.YtefippbcgdfnbaaQAx17
namespace Go.Proofs.Ytefippbcgdfnbaa.QA
open Go.RowKit Go.Proofs.YtefippbcgdfnbaaW.PrintWords Go.Proofs.YtefippbcgdfnbaaW.PrintLast Go.Proofs.YtefippbcgdfnbaaW.PrintMore
set_option linter.unusedVariables false
set_option linter.unusedSimpArgs false
/-! ### TransPuts -/
theorem TransPuts (l : List S43) (hs : small l) (b : Bool) : ∃ k, cuecardlaw05_TransPuts.f k l b = some true := by
  refine ⟨2 * l.length + 20, ?_⟩
  unfold cuecardlaw05_TransPuts.f
  rw [enc_f l hs b (by omega), refchk_f l hs (by omega)]
  simp only [Option.bind_some, cuecardlaw05_alive.f, if_true]
  by_cases h : chkV l = 0
  · simp only [h, if_true]
    rw [refenc_f l ((chkV_zero l).1 h) b (by omega)]
    simp
  · simp only [h, if_false]
    simp
end Go.Proofs.Ytefippbcgdfnbaa.QA
