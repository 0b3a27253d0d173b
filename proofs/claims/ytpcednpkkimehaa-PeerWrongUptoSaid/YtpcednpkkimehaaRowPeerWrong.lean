/- What is proved: the law PeerWrong of cuecardlaw20. Condition: what comes in is of bulk at most 1048576 (the statement's own bound). -/
import Derived.Test.YtpcednpkkimehaaRows
import Derived.Test.YtpcednpkkimehaaGWrong
import Derived.Test.YtpcednpkkimehaaOpenK
import Derived.WalkKit
import Derived.ProofKit
import Derived.OpenShut
import Derived.ShutString
import Derived.ChangeOld
import Derived.Below
import Derived.SizedLaws
import Derived.JoinedCond
import Derived.Deep.CondSized
namespace Go.Proofs.Ytpcednpkkimehaa.peerWrongUpto
open Go.ChangeShapes Go.WideShapes Go.ChangeAt Go.RowKit
open Go.ChangeMaps (open_string shut_string)
open Go.Proofs.Ytpcednpkkimehaa.QA Go.Proofs.YtpcednpkkimehaaW.PrintWords
set_option linter.unusedVariables false
set_option linter.unusedSimpArgs false
theorem own : ownKnob Try.prog.godebug = none := by kernel_rfl
theorem laidOut : laidOutB Try.prog = true := by kernel_rfl
set_option maxRecDepth 100000 in
set_option maxHeartbeats 1000000 in
theorem lifted (os : Os) (started : os.Started) (H : Type) (enc : TypeId × Value → H) (F : Stop.Interp) :
    ReturnsInHanded {} Try.checked os 6 .any ((Rows.OpenSpec.upto Rows.peerWrongSpec).pre6 enc Try.prog Try.f6 Rows.peerWrongUptoRow.domain false) (((Rows.OpenSpec.upto Rows.peerWrongSpec).at F).post enc Try.prog Try.f6 false true false false) := by
  refine returnsInHanded_of_cond_sized (C := Try.checked) (s := Rows.OpenSpec.upto Rows.peerWrongSpec) (k := Rows.uptoSmall) rfl own started (by kernel_rfl) Try.func6
    (OpenSpec.witness (enc := enc) (C := Try.checked) (s := Rows.OpenSpec.upto Rows.peerWrongSpec) (k := Rows.uptoSmall) rfl false ⟨#[], #[.agg #[.slice none 0 0, .bool false], .int .i64 0, .slice none 0 0], []⟩ 8 (by kernel_rfl) (by kernel_rfl) (by kernel_rfl)
      (x := ([.agg [.nil, .lit (.bool false)], .lit (.int .i64 0), .nil], [], [])) (by kernel_rfl) rfl (by kernel_rfl)) ?_
  intro W base args ds gs before hval0 hW hcnd hk hsz0 _
  have hval : ∀ (j : Nat) t v, Try.f6.params[j]? = some t → args[j]? = some v → Value.okWide Try.prog W .any base t v := hval0
  have hW' := hW
  obtain ⟨p, q, hA0, hV, rfl, hfz, hnd⟩ := hW
  have hA : DataW.TrodAll enc Try.prog W 0 (fun _ => true) true Try.f6.params.toList args.toList ds p := hA0
  rw [Try.params6] at hA hval
  obtain ⟨v0, vs0, d0, ds0, p0, q0, hargs, rfl, rfl, h0, r0⟩ := trodAll_cons hA
  obtain ⟨v1, vs1, d1, ds1, p1, q1, rfl, rfl, rfl, h1, r1⟩ := trodAll_cons r0
  obtain ⟨v2, vs2, d2, ds2, p2, q2, rfl, rfl, rfl, h2, r2⟩ := trodAll_cons r1
  obtain ⟨rfl, rfl, rfl⟩ := trodAll_nil r2
  obtain rfl : args = #[v0, v1, v2] := by cases args; simp_all
  obtain ⟨rfl, rfl⟩ := trodVars_none hV
  have hbulk := bulk_bound hk
  simp only [List.append_nil, Rows.uptoBulkAll] at hbulk
  obtain ⟨vs0, rfl, _⟩ := okWide_struct Try.underlying24 (hval 0 24 v0 rfl rfl)
  have k0 := h0
  have lt0 : ∀ x ∈ p0, x.block < W.heap.size := by obtain ⟨m, hm⟩ := k0; exact DataW.trod_lt m _ _ _ hm
  obtain ⟨fuel0, hf0⟩ := h0
  obtain ⟨a0, hK0, ok0, s0⟩ := opnTr.op hf0
  replace s0 : _ ≤ Rows.uptoBulk d0 := s0
  obtain ⟨B0, c0, e0, hc0, hC0⟩ := kTr_open hK0
  obtain rfl : vs0 = #[.slice B0 a0.1.length c0, .bool a0.2] := by simpa [Value.cells] using congrArg List.toArray e0
  obtain ⟨a1, rfl, rfl, rfl, w1⟩ := open_int Try.underlying3 (hval 1 3 v1 rfl rfl) h1
  simp only [Rows.uptoBulk] at hbulk
  obtain ⟨A2, len2, cap2, rfl⟩ := okWide_slice Try.underlying31 (hval 2 31 v2 rfl rfl)
  have k2 := h2
  have lt2 : ∀ x ∈ p2, x.block < W.heap.size := by obtain ⟨m, hm⟩ := k2; exact DataW.trod_lt m _ _ _ hm
  obtain ⟨fuel2, hf2⟩ := h2
  obtain ⟨l2, ⟨B2, c2, e2, hc2, hC2⟩, ok2, s2⟩ := opnBytes.op hf2
  replace s2 : _ ≤ Rows.uptoBulk d2 := s2
  simp [Value.cells] at e2
  obtain ⟨rfl, rfl, rfl⟩ := e2
  clear hA0 hval0 hsz0
  obtain ⟨k, hk⟩ := (show ∃ k : Nat, k = 0 from ⟨0, rfl⟩)
  refine ((fun (_ : k = 0) => peerWrong_walk a0.1 (small_wt (by have h0 : ((a0.1.map wtEv).sum + 1) + 1 + 1 ≤ Rows.uptoBulk d0 := s0; omega)) (way_byt ok0.1.2 1) a0.2 a1 (i64_of_wf w1).1 (i64_of_wf w1).2 _ _ l2 (by have h1 := sum_ones l2; have h2 : (l2.map fun _ => 1).sum + 1 ≤ Rows.uptoBulk d2 := s2; omega) _ _ W hC0 hc0 hC2 hc2) hk).mono fun e W' ⟨he, bel⟩ => ?_
  subst he
  exact ⟨_, rfl, _, _, _, [], _, [], hW', trodAll_mk1 (shut_bool Try.underlying4 _), (trodAll_cons_mk (Below.trod laidOut (by kernel_rfl) (of_decide_eq_true (by kernel_rfl)) k0 bel lt0) (trodAll_cons_mk (shut_int Try.underlying3 w1) (trodAll_cons_mk (Below.trod laidOut (by kernel_rfl) (of_decide_eq_true (by kernel_rfl)) k2 bel lt2) trodAll_mk0))), rfl, bel.frame _, fun h => by cases h⟩
theorem over : Rows.peerWrongUptoRow.holds Try.pinned (Rows.OpenSpec.upto Rows.peerWrongSpec) :=
  OpenClaim.holds_of_cond 6 Try.f6 rfl rfl rfl rfl rfl rfl rfl ⟨rfl, rfl, rfl, rfl, rfl⟩ rfl rfl rfl rfl rfl (by kernel_rfl) Try.func6 (by kernel_rfl)
    (of_decide_eq_true (by kernel_rfl)) (by unfold Func.isWrapper; first | (rw [if_pos (by decide +kernel)]; kernel_rfl) | (rw [if_neg (by decide +kernel)]; exact ⟨rfl, rfl⟩))
    (fun os started H enc _ F => lifted os started H enc F)
theorem proved : Rows.PeerWrongUptoSaid := over
#print axioms proved
end Go.Proofs.Ytpcednpkkimehaa.peerWrongUpto
namespace Go.Proofs.Ytpcednpkkimehaa
/-- The row, under a short name, for the claim. -/
theorem peerWrong_upto : Rows.PeerWrongUptoSaid := peerWrongUpto.proved
end Go.Proofs.Ytpcednpkkimehaa
