import Derived.Laws.Externs
import Derived.Below
import Derived.Test.YtbdknddgfmoipaaGreatDoorZE3
import Derived.Test.YtbdknddgfmoipaaGreatDoorZE4
set_option linter.unusedVariables false
set_option linter.unusedSimpArgs false
/- cuecardtop.alive, as a contract. -/
namespace Go.Ev
open Go Go.Proofs Go.RowKit

theorem hookOK (c : Cx) : HookOK c hook := fun _ _ _ _ _ h => by cases h

theorem ph : PH Tryz.prog where
  ne x w := by
    show (callFunc 99 #[x]).run Tryz.prog w = _
    rw [run_callFunc_extern (f := 99) (fn := Tryz.f99) (by kernel_rfl) (by kernel_rfl) (by kernel_rfl) (by kernel_rfl) (e := Extern.AbiNoEscape.same) (by kernel_rfl)]
    rw [Lib.run_noEscape]
    rfl
  ib b n w := by
    show (callFunc 130 #[.string b, .int .u8 n]).run Tryz.prog w = _
    rw [run_callFunc_extern (f := 130) (fn := Tryz.f130) (by kernel_rfl) (by kernel_rfl) (by kernel_rfl) (by kernel_rfl) (e := Extern.BytealgIndexByte.indexByte) (by kernel_rfl)]
    rw [run_indexByte_string]
    rfl
  mixed := by kernel_rfl

/-- the variables that alive reads -/
structure Laid (w : World) : Prop where
  size : 11 ≤ w.heap.size
  ways : ∃ e fr, w.heap[0]? = some (.cells ⟨Ev.ways⟩ e fr)
  other : ∃ e fr, w.heap[1]? = some (.cells ⟨[.int .i64 1, .int .i64 0]⟩ e fr)
  deeds : ∃ e fr, w.heap[2]? = some (.cells ⟨Ev.deeds⟩ e fr)

def R0 : Rel := fun g => if g < 11 then some ⟨g, 0, 0⟩ else none

theorem fv_ok {R : Rel} (n : Nat) : V R (fv n) (fv n) := .func .nil .nil
theorem ways_ok {R : Rel} : VL R ways ways := .cons (.ground rfl) (.cons (fv_ok _) (.cons (fv_ok _) (.cons (fv_ok _) .nil)))
theorem deeds_ok {R : Rel} : VL R deeds deeds := .cons (fv_ok _) (.cons (fv_ok _) (.cons (fv_ok _) (.cons (.ground rfl) (.cons (fv_ok _) (.cons (fv_ok _) (.cons (fv_ok _) (.cons (fv_ok _) .nil)))))))

theorem ok_glob {P : Program} {R : Rel} {g : Nat} {xs : List Value} {e : TypeId} {fr : Nat × Nat} (h : VL R xs xs) : OK P R ⟨g, 0, 0⟩ (.cells xs e 2 false) (.cells ⟨xs⟩ e fr) :=
  ⟨xs, fr, rfl, trivial, by simp, by simpa using h, (fun h => by cases h), fun _ => ⟨rfl, rfl⟩⟩

theorem start {w : World} {e0 e1 e2 : TypeId} {f0 f1 f2 : Nat × Nat} (hs : 11 ≤ w.heap.size) (h0 : w.heap[0]? = some (.cells ⟨ways⟩ e0 f0)) (h1 : w.heap[1]? = some (.cells ⟨[.int .i64 1, .int .i64 0]⟩ e1 f1)) (h2 : w.heap[2]? = some (.cells ⟨deeds⟩ e2 f2)) :
    WR ⟨Tryz.prog, w.heap.size, w⟩ R0 (s03 e0 e1 e2) w := by
  have wf0 : WF D s00.h := trivial
  have wf1 : WF D (s01 e1).h := St.wf_put wf0 _ _
  have wf2 : WF D (s02 e1 e2).h := St.wf_put wf1 _ _
  have g : ∀ j, (s03 e0 e1 e2).get j = if 0 = j then some (.cells ways e0 2 false) else if 2 = j then some (.cells deeds e2 2 false) else if 1 = j then some (.cells [.int .i64 1, .int .i64 0] e1 2 false) else none := by
    intro j
    show ((s02 e1 e2).put 0 _).get j = _
    rw [St.get_put wf2]
    show (if 0 = j ∧ 0 < 2 ^ D then _ else ((s01 e1).put 2 _).get j) = _
    rw [St.get_put wf1]
    show (if 0 = j ∧ 0 < 2 ^ D then _ else if 2 = j ∧ 2 < 2 ^ D then _ else (s00.put 1 _).get j) = _
    rw [St.get_put wf0]
    have d0 : 0 < 2 ^ D := by decide
    have d1 : 1 < 2 ^ D := by decide
    have d2 : 2 < 2 ^ D := by decide
    simp only [d0, d1, d2, and_true]
    rfl
  refine ⟨St.wf_put wf2 _ _, Nat.le_refl 11, Nat.le_refl _, fun _ _ => rfl, fun g hg => by simp only [R0]; exact if_pos hg, ?_, ?_, ?_, rfl⟩
  · intro i m hi
    unfold R0 at hi
    split at hi
    · rename_i hl
      cases hi
      exact ⟨hl, Nat.lt_of_lt_of_le hl hs, fun h => absurd hl (Nat.not_lt.2 h)⟩
    · cases hi
  · intro i m o hi ho
    unfold R0 at hi
    split at hi
    · cases hi
      rw [g] at ho
      split at ho
      · rename_i e; subst e; cases ho; exact ⟨_, h0, ok_glob ways_ok⟩
      · split at ho
        · rename_i e; subst e; cases ho; exact ⟨_, h2, ok_glob deeds_ok⟩
        · split at ho
          · rename_i e; subst e; cases ho
            exact ⟨_, h1, ok_glob (.cons (.ground rfl) (.cons (.ground rfl) .nil))⟩
          · cases ho
    · cases hi
  · intro i j m m' hi hj _ _ hb
    unfold R0 at hi hj
    split at hi
    · split at hj
      · cases hi; cases hj; exact hb
      · cases hj
    · cases hi

theorem isTrue_some {r : Ex} (h : isTrue r = true) : ∃ s, r = .vl (.bool true) s := by
  cases r with
  | vl v s =>
    cases v with
    | bool b =>
      have h : b = true := h
      subst h; exact ⟨s, rfl⟩
    | _ => cases h
  | _ => cases h

/-- **alive answers true; what lay there lies there as it lay.** -/
theorem alive_calls {w : World} (h : Laid w) : Calls Tryz.prog 7 #[] w fun e w' => e = .returned (.bool true) ∧ Below w.heap.size w w' := by
  obtain ⟨e0, f0, h0⟩ := h.ways
  obtain ⟨e1, f1, h1⟩ := h.other
  obtain ⟨e2, f2, h2⟩ := h.deeds
  obtain ⟨s2, hev⟩ := isTrue_some (alive_ev e0 e1 e2)
  have := calls_of_ev (c := ⟨Tryz.prog, w.heap.size, w⟩) ph (hookOK _) hev (args' := []) .nil (start h.size h0 h1 h2)
  refine Calls.mono this fun e w' ⟨R', v', he, hv, hW, _⟩ => ?_
  have := hv.inv_bool
  subst this
  have hr := hW.rest
  simp only [rst, Prod.mk.injEq] at hr
  exact ⟨he, hr.1, hr.2.1, hr.2.2, hW.B, hW.old⟩
end Go.Ev
