import Derived.WalkKit
import Derived.ProofKit
import Derived.Lib.SmallJoins
import Derived.KernelRfl
import Derived.Test.YtbdknddgfmoipaaGreatDoorZQ1
import Derived.Test.YtbdknddgfmoipaaGreatDoorZR1
import Derived.Test.YtbdknddgfmoipaaGreatDoorCards
import Derived.Test.YtbdknddgfmoipaaGreatDoorTie
set_option linter.unusedVariables false
set_option linter.unusedSimpArgs false
namespace Go.Proofs.YtbdknddgfmoipaaGreatDoor.topRec
open Go.ChangeShapes Go.WideShapes Go.ChangeAt Go.RowKit
open Go.Proofs.YtbdknddgfmoipaaGreatDoor.QA Go.Proofs.YtbdknddgfmoipaaGreatDoorW.PrintWords
set_option linter.unusedVariables false
set_option linter.unusedSimpArgs false
theorem Opn.struct4 {α β γ δ : Type} {P : Program} {a : Kd α} {b : Kd β} {c : Kd γ} {d : Kd δ} {t : TypeId} {f0 f1 f2 f3 : Field} {ok0 : α → Prop} {ok1 : β → Prop} {ok2 : γ → Prop} {ok3 : δ → Prop} {w0 : α → Nat} {w1 : β → Nat} {w2 : γ → Nat} {w3 : δ → Nat}
    (ht : P.underlying t = some (.struct #[f0, f1, f2, f3])) (hc : P.cellsOf t = a.sz + (b.sz + (c.sz + d.sz))) (o0 : f0.offset = 0) (o1 : f1.offset = a.sz) (o2 : f2.offset = a.sz + b.sz) (o3 : f3.offset = a.sz + b.sz + c.sz)
    (h0 : Opn P a f0.type ok0 w0) (h1 : Opn P b f1.type ok1 w1) (h2 : Opn P c f2.type ok2 w2) (h3 : Opn P d f3.type ok3 w3) :
    Opn P (Kd.pair a (Kd.pair b (Kd.pair c d))) t (fun x => ok0 x.1 ∧ ok1 x.2.1 ∧ ok2 x.2.2.1 ∧ ok3 x.2.2.2) (fun x => w0 x.1 + w1 x.2.1 + w2 x.2.2.1 + w3 x.2.2.2 + 1) :=
  ⟨hc, fun {H enc W base spare held n cs x} hx => by
    obtain ⟨y0, y1, y2, y3, m, rfl, hl, e0, e1, e2, e3⟩ := Go.Joins.trod_struct4 ht hx
    obtain ⟨x0, k0, q0, b0⟩ := h0.op e0
    obtain ⟨x1, k1, q1, b1⟩ := h1.op e1
    obtain ⟨x2, k2, q2, b2⟩ := h2.op e2
    obtain ⟨x3, k3, q3, b3⟩ := h3.op e3
    rw [h0.sz, o0] at k0
    rw [h1.sz, o1] at k1
    rw [h2.sz, o2] at k2
    rw [h3.sz, o3] at k3
    refine ⟨(x0, x1, x2, x3), ⟨_, _, ?_, k0, _, _, rfl, k1, _, _, rfl, k2, k3⟩, ⟨q0, q1, q2, q3⟩, ?_⟩
    · rw [List.drop_zero]
      rw [hc] at hl
      have e : (cs.drop (a.sz + b.sz + c.sz)).take d.sz = cs.drop (a.sz + b.sz + c.sz) := List.take_of_length_le (by rw [List.length_drop]; omega)
      have g1 : cs.drop (a.sz + b.sz + c.sz) = (cs.drop (a.sz + b.sz)).drop c.sz := by rw [List.drop_drop]
      have g2 : cs.drop (a.sz + b.sz) = (cs.drop a.sz).drop b.sz := by rw [List.drop_drop]
      rw [e, g1, List.take_append_drop, g2, List.take_append_drop, List.take_append_drop]
    · simp only [Rows.uptoBulk, Rows.uptoBulkAll]
      omega⟩
def okP (x : S32) : Prop := (Lit.int .i64 x.f0).wf = true ∧ (Lit.int .i64 x.f1).wf = true ∧ (Lit.int .i64 x.f2).wf = true ∧ x.f3.length ≤ maxLen ∧ ∀ b ∈ x.f3, (Lit.int .u8 b).wf = true
def wtP (x : S32) : Nat := 1 + 1 + 1 + ((x.f3.map fun _ => 1).sum + 1) + 1
theorem opnP : Opn Tryz.prog k32 32 okP wtP :=
  Opn.iso (Opn.struct4 (a := Kd.int .i64) (b := Kd.int .i64) (c := Kd.int .i64) (d := Kd.slice 5 (Kd.int .u8)) Tryz.underlying32 (by kernel_rfl) rfl rfl rfl rfl (Opn.int Tryz.underlying3 (by kernel_rfl)) (Opn.int Tryz.underlying3 (by kernel_rfl)) (Opn.int Tryz.underlying2 (by kernel_rfl)) (Opn.slice Tryz.underlying25 (by kernel_rfl) (Opn.int Tryz.underlying5 (by kernel_rfl))))
    (fun x : S32 => (x.f0, x.f1, x.f2, x.f3)) (fun p => ⟨p.1, p.2.1, p.2.2.1, p.2.2.2⟩) (fun _ => rfl)
theorem opnPs : Opn Tryz.prog (Kd.slice 32 k32) 22 (fun l => l.length ≤ maxLen ∧ ∀ x ∈ l, okP x) (fun l => (l.map wtP).sum + 1) := Opn.slice Tryz.underlying22 (by kernel_rfl) opnP
theorem byt_wf {l : List Int} (h : ∀ x ∈ l, (Lit.int .u8 x).wf = true) : ∀ x ∈ l, 0 ≤ x ∧ x < 256 := fun x hx => by
  have := h x hx
  simp [Lit.wf] at this
  have e1 : IntKind.u8.min = 0 := by decide
  have e2 : IntKind.u8.max = 255 := by decide
  omega
theorem own : ownKnob Tryz.prog.godebug = none := by kernel_rfl
theorem laidOut : laidOutB Tryz.prog = true := by kernel_rfl
set_option maxRecDepth 100000 in
set_option maxHeartbeats 4000000 in
/-- what the walk gives, for every argument and every world that holds the variables -/
theorem contract (H : Type) (enc : TypeId × Value → H) (W : World) (base : Nat) (args : Array Value) (ds gs : List (DataW H)) (before : List MemPlace)
    (hval0 : ∀ (j : Nat) t v, Tryz.f3.params[j]? = some t → args[j]? = some v → Value.okWide Tryz.prog W .any base t v)
    (hW : DataW.Whole enc Tryz.prog Tryz.f3.params.toList Rows.topRecordingSpec.vars false W args.toList ds gs before) (hL : laidMetH Tryz.prog Rows.topRecordingRow.laid W) :
    Calls Tryz.prog 3 args W fun e W' => ∃ v, e = .returned v ∧ Rows.topRecordingSpec.post enc Tryz.prog Tryz.f3 false true false false W args v W' := by
  have hval : ∀ (j : Nat) t v, Tryz.f3.params[j]? = some t → args[j]? = some v → Value.okWide Tryz.prog W .any base t v := hval0
  have hW' := hW
  obtain ⟨p, q, hA0, hV, rfl, hfz, hnd⟩ := hW
  have hA : DataW.TrodAll enc Tryz.prog W 0 (fun _ => true) true Tryz.f3.params.toList args.toList ds p := hA0
  rw [Tryz.params3] at hA hval
  obtain ⟨v0, vs0, d0, ds0, p0, q0, hargs, rfl, rfl, h0, r0⟩ := trodAll_cons hA
  obtain ⟨v1, vs1, d1, ds1, p1, q1, rfl, rfl, rfl, h1, r1⟩ := trodAll_cons r0
  obtain ⟨rfl, rfl, rfl⟩ := trodAll_nil r1
  obtain rfl : args = #[v0, v1] := by cases args; simp_all
  obtain ⟨rfl, rfl⟩ := trodVars_none hV
  simp only [List.append_nil] at hW'
  obtain ⟨a0, rfl, rfl, rfl, w0⟩ := open_int Tryz.underlying3 (hval 0 3 v0 rfl rfl) h0
  obtain ⟨A1, len1, cap1, rfl⟩ := okWide_slice Tryz.underlying22 (hval 1 22 v1 rfl rfl)
  have k1 := h1
  have lt1 : ∀ x ∈ p1, x.block < W.heap.size := by obtain ⟨m, hm⟩ := k1; exact DataW.trod_lt m _ _ _ hm
  obtain ⟨fuel1, hf1⟩ := h1
  obtain ⟨l1, ⟨B1, c1, e1, hc1, hC1⟩, ok1, s1⟩ := opnPs.op hf1
  simp [Value.cells] at e1
  obtain ⟨rfl, rfl, rfl⟩ := e1
  clear hA0 hval0
  refine (TQ.top_walk (of_laid hL) a0 (i64_of_wf w0) l1 _ _ hC1 hc1 (fun p hp => ⟨i64_of_wf (ok1.2 p hp).2.2.1, byt_wf (ok1.2 p hp).2.2.2.2⟩)).mono fun e W' ⟨he, bel⟩ => ?_
  subst he
  exact ⟨_, rfl, _, _, _, [], _, [], hW', trodAll_mk1 (shut_bool Tryz.underlying4 _), (trodAll_cons_mk (shut_int Tryz.underlying3 w0) (trodAll_cons_mk (Below.trod laidOut (by kernel_rfl) (of_decide_eq_true (by kernel_rfl)) k1 bel lt1) trodAll_mk0)), rfl, bel.frame _, fun h => by cases h⟩
end Go.Proofs.YtbdknddgfmoipaaGreatDoor.topRec
