import Derived.RangeFuncNested
import Derived.RangeFuncBound
import Derived.RangeFuncCalls
import Derived.RangeFuncLeaves
import Derived.Shelf.Abstract
import Derived.Shelf.RegionOpen
import Derived.WalkKit
import Derived.OwnWalkIn
import Derived.TacticsInMore
import Derived.LoopNIn
import Derived.LoopIn
import Derived.Maps.AppendAt
import Derived.StillTailTactics
import Derived.Lib.Hide
import Derived.Lib.LazyBuf
import Derived.Outline
import Derived.Deep.RegionWith
import Derived.Deep.RegionLaw
import Derived.Deep.AppendLies
import Derived.Test.YtefippbcgdfnbaaQAx6
import Derived.Test.YtefippbcgdfnbaaQAx12
import Derived.ArgAppend
import Derived.Lib.SmallJoins
namespace Go.Proofs.Ytefippbcgdfnbaa.QA
open Go.RowKit Go.Shelf Go.Proofs.YtefippbcgdfnbaaW.PrintWords Go.Proofs.YtefippbcgdfnbaaW.PrintLast Go.Proofs.YtefippbcgdfnbaaW.PrintMore
set_option linter.unusedVariables false
set_option linter.unusedSimpArgs false
/-! ### the document's examples -/
theorem reads_mark (W : World) (xs : List Int) (m : Nat × Nat) (hl : xs.length ≤ 9223372036854775807) : Kd.C (Kd.int .u8) (W.alloc (.cells (xs.map (Value.int .u8)).toArray 5 m)) (some ⟨W.heap.size, 0, none⟩) xs.length xs := by
  have hn := World.alloc_heap_new W (.cells (xs.map (Value.int .u8)).toArray 5 m)
  refine ⟨rfl, hl, fun _ => ⟨_, rfl, fun j x hj => ⟨[.int .u8 x], rfl, ?_, ?_⟩⟩⟩
  · rfl
  · intro i u hu
    rcases i with _ | i
    · simp at hu
      subst hu
      rw [add_plain]
      generalize W.alloc (.cells (xs.map (Value.int .u8)).toArray 5 m) = W' at hn ⊢
      simp [World.cell?, hn, Kd.int, Kd.scalar, hj]
    · simp at hu
theorem reads_u8 {w : World} {b : Nat} {xs : List Int} (h : ∀ j, j < xs.length → w.cell? ⟨b, j, none⟩ = some (.int .u8 (xs.getD j 0))) (hl : xs.length ≤ 9223372036854775807) : (Kd.int .u8).C w (some ⟨b, 0, none⟩) xs.length xs :=
  Kd.C_of_reads (d := (0 : Int)) (h1 := fun _ => rfl) (show ReadsInt w .u8 (some ⟨b, 0, none⟩) xs.length xs from ⟨rfl, hl, fun _ => ⟨_, rfl, fun j hj => by rw [add_plain]; exact h j hj⟩⟩)
theorem reads_k43 {w : World} {b : Nat} {l : List S43} (hl : l.length ≤ 9223372036854775807) (bs : Nat → Nat) (cs : Nat → Nat)
    (h : ∀ j x, l[j]? = some x → w.cell? ⟨b, j * 3, none⟩ = some (.int .i64 x.f0) ∧ w.cell? ⟨b, j * 3 + 1, none⟩ = some (.int .i64 x.f1) ∧ w.cell? ⟨b, j * 3 + 2, none⟩ = some (.slice (some ⟨bs j, 0, none⟩) x.f2.length (cs j)) ∧ x.f2.length ≤ cs j ∧ (Kd.int .u8).C w (some ⟨bs j, 0, none⟩) x.f2.length x.f2) :
    Kd.C k43 w (some ⟨b, 0, none⟩) l.length l := by
  refine ⟨rfl, hl, fun _ => ⟨_, rfl, fun j x hj => ?_⟩⟩
  obtain ⟨h0, h1, h2, h3, h4⟩ := h j x hj
  refine ⟨_, rfl, k43_mk w x h3 h4, fun i u hu => ?_⟩
  rw [add_plain]
  show w.cell? ⟨b, j * 3 + i, none⟩ = some u
  match i, hu with
  | 0, hu => injection hu with hu; subst hu; exact h0
  | 1, hu => injection hu with hu; subst hu; exact h1
  | 2, hu => injection hu with hu; subst hu; exact h2
set_option maxRecDepth 100000 in
set_option maxHeartbeats 2000000 in
theorem cuecardlaw05_aliveT (w : World) :
    Calls Try.prog 12 #[] w fun e w' => e = .returned (.bool true) ∧ Below w.heap.size w w' := by
  have kc := fun (w : World) (C : Array Value) (n c g : Nat) (hg : g = w.heap.size) => Joins.run_convert_bytes_const_at (P := Try.prog) w 25 5 C n c g hg Try.underlying25 Try.underlying5
  have dE : trans_Encode.f 60 [⟨0, 5, [97, 98]⟩] true = some ([67, 85, 69, 49, 1, 10, 2, 97, 98, 3], 0) := by decide +kernel
  have dD1 : trans_Decode.f 60 [] = some ([], false, 0, 5) := by kernel_rfl
  have dD2 : trans_Decode.f 60 [67, 85, 70] = some ([], false, 2, 4) := by kernel_rfl
  have DE := Lib.hid dE
  have DD1 := Lib.hid dD1
  have DD2 := Lib.hid dD2
  clear dE dD1 dD2
  go_enter Try.func12, Try.ntmps12
  go_wp2_with (fail)
  have hE1 : Below w.heap.size w (w.alloc (.cells #[.int .u8 97, .int .u8 98] 5 (2, 3))) := (Below.refl _ w).alloc (Nat.le_refl _) _
  have hr1 := reads_mark w [97, 98] (2, 3) (by decide)
  have hC : Kd.C k43 ((w.alloc (.cells #[.int .u8 97, .int .u8 98] 5 (2, 3))).alloc (.cells #[.int .i64 0, .int .i64 5, .slice (some ⟨w.heap.size, 0, none⟩) 2 2] 43)) (some ⟨w.heap.size + 1, 0, none⟩) [(⟨0, 5, [97, 98]⟩ : S43)].length [(⟨0, 5, [97, 98]⟩ : S43)] := by
    refine reads_k43 (by decide) (fun _ => w.heap.size) (fun _ => 2) ?_
    intro j x hj
    match j, hj with
    | 0, hj => injection hj with hj; subst hj; exact ⟨by go_simp, by go_simp, by go_simp, by decide, Kd.C_alloc hr1 _⟩
  have hB : Below w.heap.size w ((w.alloc (.cells #[.int .u8 97, .int .u8 98] 5 (2, 3))).alloc (.cells #[.int .i64 0, .int .i64 5, .slice (some ⟨w.heap.size, 0, none⟩) 2 2] 43)) := hE1.alloc hE1.size _
  clear hE1 hr1
  have HB := Lib.hid hB
  have HC := Lib.hid hC
  clear hB hC
  refine (trans_Encode.calls 60 _ _ [⟨0, 5, [97, 98]⟩] true _ _ _ HC.out (by decide) DE.out).mono ?_
  rintro e w1 ⟨v, rfl, hv, hb1⟩
  have hB1 := below_step HB.out hb1
  obtain ⟨Av, cv, rfl, hcv, hCv⟩ := KL.R_reads hv
  have HC1 := Lib.hid hCv
  have HB1 := Lib.hid hB1
  clear HB HC hb1 hB1 hv hCv
  go_wp2_with (fail)
  refine (trans_Decode.calls 60 none 0 [] _ _ _ _ w1 ⟨rfl, by simp, fun h => absurd h (by simp)⟩ (Nat.le_refl _) DD1.out).mono ?_
  rintro e w2 ⟨v, rfl, hS, hb2⟩
  obtain ⟨A5, c5, rfl⟩ := Kd.S_slice hS
  have HC2 := Lib.hid (Kd.C_below HC1.out hb2)
  have HB2 := Lib.hid (below_step HB1.out hb2)
  clear HC1 HB1 hS hb2
  go_wp2_with (fail)
  refine (trans_Decode.calls 60 _ _ [67, 85, 70] _ _ _ _ _ (by
    have := reads_mark (w2.alloc (.cells #[.slice A5 0 c5, .bool false] 24)) [67, 85, 70] (0, 0) (by decide)
    rw [World.size_alloc] at this
    exact this) (by decide) DD2.out).mono ?_
  rintro e w3 ⟨v, rfl, hS, hb3⟩
  obtain ⟨A6, c6, rfl⟩ := Kd.S_slice hS
  have hk : Below w2.heap.size w2 w3 := below_step (((Below.refl _ _).alloc (Nat.le_refl _) _).alloc (by simp) _) hb3
  have hC3 := Kd.C_below HC2.out hk
  have HB3 := Lib.hid (below_step HB2.out hk)
  have hs0 : ∀ o : Obj, (convert 25 9 (.slice Av 10 cv)).run Try.prog (w3.alloc o) = .ok (.string (strOfNums [67, 85, 69, 49, 1, 10, 2, 97, 98, 3])) (w3.alloc o) := fun o => Kd.C_string (P := Try.prog) (A := Av) (c := cv) Try.underlying25 Try.underlying5 Try.underlying9 (Kd.C_alloc hC3 o)
  have hs1 : ∀ o : Obj, (convert 25 9 (.slice (some ⟨w3.heap.size + 1, 0, none⟩) 10 10)).run Try.prog ((w3.alloc o).alloc (.cells #[.int .u8 67, .int .u8 85, .int .u8 69, .int .u8 49, .int .u8 1, .int .u8 10, .int .u8 2, .int .u8 97, .int .u8 98, .int .u8 3] 5)) = .ok (.string (strOfNums [67, 85, 69, 49, 1, 10, 2, 97, 98, 3])) ((w3.alloc o).alloc (.cells #[.int .u8 67, .int .u8 85, .int .u8 69, .int .u8 49, .int .u8 1, .int .u8 10, .int .u8 2, .int .u8 97, .int .u8 98, .int .u8 3] 5)) := fun o => by
    have := reads_mark (w3.alloc o) [67, 85, 69, 49, 1, 10, 2, 97, 98, 3] (0, 0) (by decide)
    rw [World.size_alloc] at this
    exact Kd.C_string (P := Try.prog) (c := 10) Try.underlying25 Try.underlying5 Try.underlying9 this
  clear HC2 HB2 hS hb3 hk hC3 kc
  go_wp2
  go_ret
  exact ⟨by first | rfl | (simp; done) | (simp; decide +kernel), by repeat (first | exact HB3.out | apply below_alloc)⟩
/-- the examples hold -/
def cuecardlaw05_alive.f (k : Nat) : Option Bool := some true
theorem cuecardlaw05_alive.mono : ∀ k, LeO (cuecardlaw05_alive.f k ) (cuecardlaw05_alive.f (k + 1) ) := fun _ => LeO.refl _
theorem cuecardlaw05_alive.calls (k : Nat)  (r : Bool) (w : World) (h : cuecardlaw05_alive.f k  = some r) :
    Calls Try.prog 12 #[] w fun e w' => e = .returned (.bool r) ∧ Below w.heap.size w w' := by
  obtain rfl := Option.some.inj h
  exact cuecardlaw05_aliveT w
end Go.Proofs.Ytefippbcgdfnbaa.QA
