import Derived.Test.YtefippbcgdfnbaaGT3
import Derived.Test.YtefippbcgdfnbaaQAx29
namespace Go.Proofs.Ytefippbcgdfnbaa.QA
open Go.RowKit Go.Proofs.YtefippbcgdfnbaaW.PrintWords Go.Proofs.YtefippbcgdfnbaaW.PrintLast Go.Proofs.YtefippbcgdfnbaaW.PrintMore
set_option linter.unusedVariables false
set_option linter.unusedSimpArgs false
theorem TransOne (b : List Int) (hb : Byt b) (hlen : b.length ≤ 1048576) : ∃ k, cuecardlaw05_TransOne.f k b = some true := by
  refine ⟨4 * 1048576, ?_⟩
  unfold cuecardlaw05_TransOne.f
  rcases dec_spec hb (by omega) (show 3 * b.length + 40 ≤ 4 * 1048576 by omega) with ⟨l, f, g, _, hbe, h⟩ | ⟨p, e, he, hp, h⟩
  · have hs := small_of_good g
    have := g.1
    rw [h]
    simp only [Option.bind_some, if_true]
    rw [enc_f l hs f (by omega)]
    simp only [(chkV_zero l).2 g, if_true, Option.bind_some, cuecardlaw05_alive.f]
    rw [← hbe]
    simp
  · rw [h]
    simp only [Option.bind_some, cuecardlaw05_alive.f, if_true]
    rw [if_neg he, if_pos (by omega), if_pos (by omega)]
    simp
end Go.Proofs.Ytefippbcgdfnbaa.QA
