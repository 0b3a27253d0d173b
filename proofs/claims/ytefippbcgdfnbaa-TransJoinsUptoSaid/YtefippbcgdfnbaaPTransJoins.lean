import Derived.Lib.Bytes
import Derived.Laws.BytesArg
import Derived.Test.YtefippbcgdfnbaaGT1
import Derived.Test.YtefippbcgdfnbaaQAx32
namespace Go.Proofs.Ytefippbcgdfnbaa.QA
open Go.RowKit Go.Proofs.YtefippbcgdfnbaaW.PrintWords Go.Proofs.YtefippbcgdfnbaaW.PrintLast Go.Proofs.YtefippbcgdfnbaaW.PrintMore
set_option linter.unusedVariables false
set_option linter.unusedSimpArgs false
/-! ### TransJoins -/
theorem evs_append (l r : List S43) : ∀ last, evs last (l ++ r) = evs last l ++ evs ((l.getLast?.map S43.f1).getD last) r := by
  induction l with
  | nil => intro last; simp [evs]
  | cons e t ih =>
    intro last
    rw [List.cons_append, evs, evs, ih, List.append_assoc]
    congr 2
    cases t with
    | nil => simp
    | cons a t => simp [List.getLast?_cons_cons, List.getLast?_cons]
theorem strOf_snoc3 (t : List Int) : strOfNums (t ++ [3]) = strOfNums t ++ (⟨#[3]⟩ : ByteArray) := by
  apply ByteArray.ext
  simp [strOfNums, ByteArray.data_append]
theorem TransJoins (l : List S43) (hs : small l) (e : S43) (he : small (l ++ [e])) : ∃ k, cuecardlaw05_TransJoins.f k l e.f0 e.f1 e.f2 = some true := by
  have hl := small_tot hs
  refine ⟨2 * l.length + 40, ?_⟩
  unfold cuecardlaw05_TransJoins.f
  rw [enc_f l hs false (by omega)]
  simp only [Option.bind_some]
  rw [if_pos (by simp; omega)]
  try simp only [Option.bind_some]
  rw [if_pos (by simp; omega), show (([] : List S43) ++ l) ++ [(⟨e.f0, e.f1, e.f2⟩ : S43)] = l ++ [e] from rfl, enc_f (l ++ [e]) he false (by simp; omega)]
  simp only [Option.bind_some]
  by_cases h : chkV l = 0
  · have g := (chkV_zero l).1 h
    simp only [h, if_true]
    by_cases h2 : chkV (l ++ [e]) = 0
    · have g2 := (chkV_zero _).1 h2
      simp only [h2, if_true]
      rw [show ((0 : Int) != 0) = false from rfl, show 2 * l.length + 40 = (2 * l.length + 39) + 1 from rfl, cuecardlaw05_TransJoins.j0, if_neg (by decide), enc_f l hs true (by omega)]
      simp only [Option.bind_some, cuecardlaw05_alive.f, if_true, h]
      have hb : trn (l ++ [e]) false = trn l false ++ evb ((l.getLast?.map S43.f1).getD 0) e := by
        unfold trn
        rw [evs_append]
        simp [fin, evs]
      have h3 := evb_len ((l.getLast?.map S43.f1).getD 0) e (g2.2.1 e (by simp)).2
      have h4 := trn_len g false
      rw [hb, if_pos (by rw [List.length_append]; omega), if_pos (by omega), if_pos (by rw [List.length_append]; omega), Int.toNat_natCast, List.take_left]
      rw [if_pos rfl]
      have h5 : trn l true = trn l false ++ [3] := by unfold trn; simp [fin]
      rw [h5, strOf_snoc3]
      rw [if_pos (by rw [strOfNums_size]; omega)]
      simp
    · simp only [h2, if_false]
      rw [show (chkV (l ++ [e]) != 0) = true by simpa using h2, show 2 * l.length + 40 = (2 * l.length + 39) + 1 from rfl, cuecardlaw05_TransJoins.j0, if_pos rfl, refchk_f l hs (by omega)]
      simp [cuecardlaw05_alive.f, h]
  · simp only [h, if_false]
    rw [show 2 * l.length + 40 = (2 * l.length + 39) + 1 from rfl, cuecardlaw05_TransJoins.j0, if_pos rfl, refchk_f l hs (by omega)]
    simp [cuecardlaw05_alive.f]
end Go.Proofs.Ytefippbcgdfnbaa.QA
