import Derived.Lib.Hide
import Derived.Test.YtjcaflhlilckgaaPEvents
import Derived.Test.YtjcaflhlilckgaaQAx16
namespace Go.Proofs.Ytjcaflhlilckgaa.QA
open Go.RowKit Go.Proofs.YtjcaflhlilckgaaW.PrintWords Go.Proofs.YtjcaflhlilckgaaW.PrintMore
set_option linter.unusedVariables false
set_option linter.unusedSimpArgs false
theorem TurnEvents (l : List S33) (hs : smallT l) (a : Int) (ha : -9223372036854775808 ≤ a ∧ a ≤ 9223372036854775807) : ∃ k, cuecardlaw10_TurnEvents.f k l a = some true := by
  obtain ⟨k, hk⟩ : ∃ k, 4000000 ≤ k := ⟨_, Nat.le_refl _⟩
  refine ⟨k, ?_⟩
  have h0 := smallT_len hs
  have hE := evs_len l
  obtain ⟨c, hcc, hcl, hcx⟩ := sn_nat a l.length ha.1 (by omega)
  have e1 : l.take (mx 0 (mn a (l.length : Int))).toNat = l.take (a - ((0 : Nat) : Int)).toNat := take_toNat _ _ _ (by
    unfold mx mn
    split <;> split <;> omega)
  have e2 : l.take c = l.take (a + 1 - ((0 : Nat) : Int)).toNat := take_toNat _ _ _ (by
    unfold mx mn at hcx
    split at hcx <;> split at hcx <;> omega)
  have r1 := rtold_l0 a l (by omega) l.length 0 k 0 (by omega) (by omega) (by rw [List.drop_zero]; omega)
  have r2 := rseen_l0 a l (by omega) l.length 0 k 0 (by omega) (by omega) (by rw [List.drop_zero]; omega)
  rw [List.drop_zero, Nat.zero_add, ← e1] at r1
  rw [List.drop_zero, Nat.zero_add, ← e2] at r2
  have r3 : cuecardref04_Same.f k (evs l) (evs l) = some true := by
    unfold cuecardref04_Same.f
    rw [if_pos rfl]
    exact same4_l0 (evs l) (by omega) (evs l).length 0 k (by omega) (by omega)
  have r4 : cuecardref10_Told.f k a l = _ := r1
  have r5 : cuecardref10_Seen.f k a l = _ := r2
  unfold cuecardlaw10_TurnEvents.f
  rw [show cuecardlaw10_alive.f k = some true from rfl, Option.bind_some, if_pos rfl, events_f l (by omega) (by omega), Option.bind_some, refevs_f l (by omega) (by omega), Option.bind_some, r3, Option.bind_some, if_pos rfl, told_f a l (by omega) (by omega) (by omega), Option.bind_some, r4, Option.bind_some, if_pos rfl,
    seen_f a l ha.1 (by omega) (by omega) (by omega), Option.bind_some, r5, Option.bind_some, hcc, Int.toNat_natCast]
  simp
end Go.Proofs.Ytjcaflhlilckgaa.QA
