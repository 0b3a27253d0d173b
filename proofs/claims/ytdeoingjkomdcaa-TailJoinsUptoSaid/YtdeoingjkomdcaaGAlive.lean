import Derived.RangeFuncNested
import Derived.RangeFuncBound
import Derived.RangeFuncCalls
import Derived.RangeFuncLeaves
import Derived.Shelf.Abstract
import Derived.Shelf.RegionOpen
import Derived.WalkKit
import Derived.OwnWalkIn
import Derived.TacticsInMore
import Derived.LoopNIn
import Derived.LoopIn
import Derived.Maps.AppendAt
import Derived.StillTailTactics
import Derived.Lib.Hide
import Derived.Lib.LazyBuf
import Derived.Outline
import Derived.Deep.RegionWith
import Derived.Deep.RegionLaw
import Derived.Deep.AppendLies
import Derived.Test.YtdeoingjkomdcaaQAx4
import Derived.Lib.SmallJoins
namespace Go.Proofs.Ytdeoingjkomdcaa.QA
open Go.RowKit Go.Shelf Go.Proofs.YtdeoingjkomdcaaW.PrintWords Go.Proofs.YtdeoingjkomdcaaW.PrintLast Go.Proofs.YtdeoingjkomdcaaW.PrintMore
set_option linter.unusedVariables false
set_option linter.unusedSimpArgs false
/-! ### the document's examples -/
theorem reads_mark (W : World) (xs : List Int) (m : Nat × Nat) (hl : xs.length ≤ 9223372036854775807) : Kd.C (Kd.int .u8) (W.alloc (.cells (xs.map (Value.int .u8)).toArray 5 m)) (some ⟨W.heap.size, 0, none⟩) xs.length xs := by
  have hn := World.alloc_heap_new W (.cells (xs.map (Value.int .u8)).toArray 5 m)
  refine ⟨rfl, hl, fun _ => ⟨_, rfl, fun j x hj => ⟨[.int .u8 x], rfl, ?_, ?_⟩⟩⟩
  · rfl
  · intro i u hu
    rcases i with _ | i
    · simp at hu
      subst hu
      rw [add_plain]
      generalize W.alloc (.cells (xs.map (Value.int .u8)).toArray 5 m) = W' at hn ⊢
      simp [World.cell?, hn, Kd.int, Kd.scalar, hj]
    · simp at hu
set_option maxRecDepth 100000 in
set_option maxHeartbeats 2000000 in
theorem cuecardlaw09_aliveT (w : World) :
    Calls Try.prog 12 #[] w fun e w' => e = .returned (.bool true) ∧ Below w.heap.size w w' := by
  have kc := fun (w : World) (C : Array Value) (n c g : Nat) (hg : g = w.heap.size) => Joins.run_convert_bytes_const_at (P := Try.prog) w 22 5 C n c g hg Try.underlying22 Try.underlying5
  have dP : tail_Pieces.f 60 [97, 97, 97, 97] 3 = some ([[97, 97, 97], [97]], 0) := by decide +kernel
  have dS1 : tail_Shortest.f 60 [108, 111, 103, 105, 110, 58, 32] = some 1 := by decide +kernel
  have dS2 : tail_Shortest.f 60 [97, 98, 97, 98] = some 3 := by decide +kernel
  have dS3 : tail_Shortest.f 60 [97, 97, 97] = some 3 := by decide +kernel
  have DP := Lib.hid dP
  have DS1 := Lib.hid dS1
  have DS2 := Lib.hid dS2
  have DS3 := Lib.hid dS3
  clear dP dS1 dS2 dS3
  go_enter Try.func12, Try.ntmps12
  go_wp2_with (fail)
  refine (tail_Pieces.calls 60 _ _ [97, 97, 97, 97] 3 _ _ _ (reads_mark w [97, 97, 97, 97] (4, 5) (by decide)) (by decide) DP.out).mono ?_
  rintro e w1 ⟨v, rfl, hS, hb1⟩
  have hB1 : Below w.heap.size w w1 := below_step ((Below.refl _ _).alloc (Nat.le_refl _) _) hb1
  obtain ⟨Av, cv, rfl⟩ := Kd.S_slice hS
  have hC1 := (Kd.S_reads' hS).2.2
  have HC := Lib.hid hC1
  have HB := Lib.hid hB1
  clear hS hb1 hB1 hC1
  go_wp2_with (fail)
  refine (tail_Shortest.calls 60 _ _ [108, 111, 103, 105, 110, 58, 32] _ _ (reads_mark w1 [108, 111, 103, 105, 110, 58, 32] (7, 8) (by decide)) (by decide) DS1.out).mono ?_
  rintro e w2 ⟨rfl, hb1⟩
  have hk : Below w1.heap.size w1 w2 := below_step ((Below.refl _ _).alloc (Nat.le_refl _) _) hb1
  have hC2 := Kd.C_below HC.out hk
  have hB2 := below_step HB.out hk
  clear HC HB hb1 hk
  have HC := Lib.hid hC2
  have HB := Lib.hid hB2
  clear hC2 hB2
  go_wp2_with (fail)
  refine (tail_Shortest.calls 60 _ _ [97, 98, 97, 98] _ _ (reads_mark w2 [97, 98, 97, 98] (4, 5) (by decide)) (by decide) DS2.out).mono ?_
  rintro e w3 ⟨rfl, hb1⟩
  have hk : Below w2.heap.size w2 w3 := below_step ((Below.refl _ _).alloc (Nat.le_refl _) _) hb1
  have hC2 := Kd.C_below HC.out hk
  have hB2 := below_step HB.out hk
  clear HC HB hb1 hk
  have HC := Lib.hid hC2
  have HB := Lib.hid hB2
  clear hC2 hB2
  go_wp2_with (fail)
  refine (tail_Shortest.calls 60 _ _ [97, 97, 97] _ _ (reads_mark w3 [97, 97, 97] (3, 4) (by decide)) (by decide) DS3.out).mono ?_
  rintro e w4 ⟨rfl, hb1⟩
  have hk : Below w3.heap.size w3 w4 := below_step ((Below.refl _ _).alloc (Nat.le_refl _) _) hb1
  have hC2 := Kd.C_below HC.out hk
  have hB2 := below_step HB.out hk
  clear HC HB hb1 hk
  have HC := Lib.hid hC2
  have HB := Lib.hid hB2
  clear hC2 hB2
  obtain ⟨_, _, hx⟩ := HC.out
  obtain ⟨ad, rfl, hy⟩ := hx (by decide)
  obtain ⟨cs0, _, ⟨A0, c0, rfl, _, hr0⟩, hc0⟩ := hy 0 _ rfl
  obtain ⟨cs1, _, ⟨A1, c1, rfl, _, hr1⟩, hc1⟩ := hy 1 _ rfl
  have hx0 := hc0 0 _ rfl
  have hx1 := hc1 0 _ rfl
  rw [show (0 * (Kd.slice 5 (Kd.int .u8)).sz + 0) = 0 from rfl] at hx0
  rw [show (1 * (Kd.slice 5 (Kd.int .u8)).sz + 0) = 1 from rfl] at hx1
  have hs0 := Kd.C_string (P := Try.prog) (A := A0) (c := c0) Try.underlying22 Try.underlying5 Try.underlying9 hr0
  have hs1 := Kd.C_string (P := Try.prog) (A := A1) (c := c1) Try.underlying22 Try.underlying5 Try.underlying9 hr1
  clear hx hy hc0 hc1 hr0 hr1 HC kc
  have hx2 := hx0
  rw [Addr.add_zero'] at hx2
  simp only [List.length_cons, List.length_nil, Nat.reduceAdd] at hs0 hs1
  simp only [Nat.reduceEqDiff, Go.Addr.add, ↓reduceIte] at hx1
  have hb0 : ((strOfNums [97, 97, 97]).toList == ([97, 97, 97] : List UInt8)) = true := by decide +kernel
  have hb0' : (strOfNums [97, 97, 97]).toList = ([97, 97, 97] : List UInt8) := by decide +kernel
  go_wp2
  go_ret
  exact ⟨by first | rfl | (simp; decide +kernel), HB.out⟩
/-- the examples hold -/
def cuecardlaw09_alive.f (k : Nat) : Option Bool := some true
theorem cuecardlaw09_alive.mono : ∀ k, LeO (cuecardlaw09_alive.f k ) (cuecardlaw09_alive.f (k + 1) ) := fun _ => LeO.refl _
theorem cuecardlaw09_alive.calls (k : Nat)  (r : Bool) (w : World) (h : cuecardlaw09_alive.f k  = some r) :
    Calls Try.prog 12 #[] w fun e w' => e = .returned (.bool r) ∧ Below w.heap.size w w' := by
  obtain rfl := Option.some.inj h
  exact cuecardlaw09_aliveT w
end Go.Proofs.Ytdeoingjkomdcaa.QA
