import Derived.RangeFuncNested
import Derived.RangeFuncBound
import Derived.RangeFuncCalls
import Derived.RangeFuncLeaves
import Derived.Shelf.Abstract
import Derived.WalkKit
import Derived.OwnWalkIn
import Derived.TacticsInMore
import Derived.LoopNIn
import Derived.LoopIn
import Derived.Maps.AppendAt
namespace Go.Proofs.Ytjcaflhlilckgaa.QA
open Go.RowKit Go.Shelf
set_option linter.unusedVariables false
set_option linter.unusedSimpArgs false
/-! ### a range over a function whose iterator writes cells of its own between the rounds -/
section law
variable {F : Fence} {n : Nat} {P : Program} {α : Type}
/-- what may be said of the loop between the rounds, when the iterator grows the world, or writes a block that C lets it write -/
def AbC (C : World → Nat → Prop) (J : List α → World → Prop) : Prop :=
  ∀ s A B row, J s A → A.grownBy B row → (∀ r, row = some r → C A r ∧ ∃ o : Obj, A.heap[r]? = some o ∧ o.isCells = true) → J s B
/-- the iterator's contract: Nx says which element may come next, Kp what a round that goes on keeps -/
def SeqC (F : Fence) (n : Nat) (P : Program) (g : Nat) (lb : Array Value) (encs : α → Array Value) (C : World → Nat → Prop) (Kp : World → World → Prop) (Nx : List α → α → World → Prop) (S Sp : List α → Prop) (w : World) : Prop :=
  ∀ (l : Nat) (J Jx : List α → World → Prop) (W : World), Below w.heap.size w W → AbC C J → AbC C Jx →
    (∀ pre x W1, J pre W1 → Nx pre x W1 → YieldAt F (n - 1) P l (encs x) W1 fun e W' =>
      (e = .returned (.bool true) ∧ J (pre ++ [x]) W' ∧ Kp W1 W') ∨ (e = .returned (.bool false) ∧ Jx (pre ++ [x]) W')) →
    J [] W →
    CallsIn F n P g (#[.func (.yield l) #[] #[]] ++ lb) W fun e W' => (∃ v, e = .returned v) ∧ ((∃ xs, S xs ∧ J xs W') ∨ (∃ pre, Sp pre ∧ Jx pre W'))
/-- how a round's body may be left -/
def bodyC (B : Nat) (Kp : World → World → Prop) (I Ix : List α → World → Prop) (xs : List α) (W : World) : Exit → Act → World → Prop
  | .normal, _, W' => KeepsFrom B W W' ∧ Kp W W' ∧ I xs W'
  | .ret, _, W' => KeepsFrom B W W' ∧ Ix xs W'
  | _, _, _ => False
theorem range_c {g : Operand} {ps : Array Tmp} {assign body : Code} {Q : Exit → Act → World → Prop} {a : Act} {w : World}
    (hro : F.round = none) (h1 : 1 ≤ n) {gf : Nat} {lb : Array Value} (hg : a.eval g = .func (.func gf) #[] lb) (hFg : F.fn gf) (eg : ∀ args w, (callFunc gf args).run P w = .ok (.enter gf args) w)
    {encs : α → Array Value} {C : World → Nat → Prop} {Kp : World → World → Prop} {Nx : List α → α → World → Prop} {S Sp : List α → Prop} (hseq : SeqC F (n - 1) P gf lb encs C Kp Nx S Sp w)
    (hKt : ∀ {A B C : World}, Kp A B → Kp B C → Kp A C) (hKb : ∀ (W : World) (l : Nat) (o o' : Obj), w.heap.size ≤ l → W.heap[l]? = some o → o.isCells = false → o'.isCells = false → Kp W (W.putObj l o')) (hNb : ∀ (pre : List α) (x : α) (W : World) (l : Nat) (o o' : Obj), w.heap.size ≤ l → W.heap[l]? = some o → o.isCells = false → o'.isCells = false → Nx pre x W → Nx pre x (W.putObj l o')) (hps : ∀ x, (encs x).size = ps.size)
    (I Ix : List α → World → Prop) (hI : OwnFrom w.heap.size I) (hIx : OwnFrom w.heap.size Ix) (hC : AbC C I) (hCx : AbC C Ix) (h0 : I [] w) (A₁ : α → Act → World → Prop)
    (hA : ∀ (x : α) (a' : Act) (W : World) (l : Nat) (o o' : Obj), w.heap.size ≤ l → W.heap[l]? = some o → o.isCells = false → o'.isCells = false → A₁ x a' W → A₁ x a' (W.putObj l o'))
    (hassign : ∀ (l : Nat) (pre : List α) (x : α) (W : World) (K : Act → World → Prop), I pre W → Nx pre x W → (∀ a' W', KeepsFrom w.heap.size W W' → Kp W W' → I pre W' → Nx pre x W' → A₁ x a' W' → K a' W') →
      assign.wpIn (F.inRound l) (n - 1 - 1) P (Exit.then K (fun _ _ _ => False)) { tmps := (ps.zip (encs x)).foldl (fun t (p, v) => t.setIfInBounds p v) a.tmps, defers := [] } W)
    (hbody : ∀ (l : Nat) (pre : List α) (x : α) (a' : Act) (W : World), I pre W → Nx pre x W → A₁ x a' W → body.wpIn (F.inRound l) (n - 1 - 1) P (bodyC w.heap.size Kp I Ix (pre ++ [x]) W) a' W)
    (hdone : ∀ (D : Nat) (xs : List α) (W : World), w.heap.size ≤ D → S xs → I xs W → W.heap[D]? = some (.deferred (some [])) → Q .normal { a with defers := { target := .collected D, args := #[] } :: a.defers } W)
    (hstop : ∀ (D : Nat) (pre : List α) (W : World), w.heap.size ≤ D → Sp pre → Ix pre W → W.heap[D]? = some (.deferred (some [])) → Code.ret.wpIn F n P Q { a with defers := { target := .collected D, args := #[] } :: a.defers } W) :
    (Code.rangeFunc g ps assign body).wpIn F n P Q a w := by
  refine wpIn_rangeFunc ?_
  intro fn hfn
  rw [hro]
  obtain ⟨rec, hrec⟩ : ∃ rec : LoopState → Option Code → Loop, rec = fun st pe => { state := st, pending := pe, fn, tmps := a.tmps, params := ps, assign, body, defers := w.heap.size } := ⟨_, rfl⟩
  obtain ⟨W1, hW1⟩ : ∃ W1, (w.alloc (.deferred (some []))).alloc (.loop (rec .ready none)) = W1 := ⟨_, rfl⟩
  -- the two blocks of the loop's book-keeping
  let Bk : Option Code → World → Prop := fun pe W => W.heap[w.heap.size + 1]? = some (.loop (rec (if pe.isNone then .ready else .done) pe)) ∧ W.heap[w.heap.size]? = some (.deferred (some []))
  have hBk : Bk none W1 := by
    constructor
    · rw [← hW1]
      have := World.alloc_heap_new (w.alloc (.deferred (some []))) (.loop (rec .ready none))
      rwa [World.size_alloc] at this
    · rw [← hW1]
      exact (Below.heap_alloc _ _ _ (by simp)).trans (World.alloc_heap_new w _)
  have hkeep : ∀ {pe : Option Code} {A B : World} {row : Option Nat}, Bk pe A → A.grownBy B row → (∀ r, row = some r → C A r ∧ ∃ o : Obj, A.heap[r]? = some o ∧ o.isCells = true) → Bk pe B := by
    rintro pe A B row ⟨b1, b2⟩ hgr hr
    have other : ∀ (k : Nat) (o : Obj), A.heap[k]? = some o → o.isCells = false → B.heap[k]? = some o := fun k o hk ho => by
      refine (hgr.block k (Array.getElem?_eq_some_iff.1 hk).1 (fun e => ?_)).trans hk
      obtain ⟨_, o', ho', hc'⟩ := hr k e.symm
      rw [hk] at ho'
      cases ho'
      rw [ho] at hc'
      cases hc'
    exact ⟨other _ _ b1 rfl, other _ _ b2 rfl⟩
  have hI1 : I [] W1 := by rw [← hW1]; exact hI.alloc _ (hI.alloc _ h0)
  have hb1 : Below w.heap.size w W1 := by
    rw [← hW1]
    exact ((Below.refl _ w).alloc (Nat.le_refl _) _).alloc (by simp) _
  refine ⟨w.heap.size + 1, [{ target := .collected w.heap.size, args := #[] }], W1, { target := .fn (.func gf) lb, args := #[.func (.yield (w.heap.size + 1)) #[] #[]] }, W1, gf, #[.func (.yield (w.heap.size + 1)) #[] #[]] ++ lb, W1, ?_, ?_, ?_, ?_, fun _ => h1, ?_⟩
  · rw [← hW1, hrec]; exact run_enterLoop_outer _ _ _ _ _
  · simp only [resolve, hg]
    simp [go_sem]
  · intro f' hf'; simp [Target.leads] at hf'; subst hf'; exact hFg
  · simp [invoke, go_sem, eg]
  refine (hseq (w.heap.size + 1) (fun pre W => I pre W ∧ Bk none W) (fun pre W => Ix pre W ∧ Bk (some .ret) W) W1 hb1
    (fun s A B row hs hgr hr => ⟨hC s A B row hs.1 hgr hr, hkeep hs.2 hgr hr⟩) (fun s A B row hs hgr hr => ⟨hCx s A B row hs.1 hgr hr, hkeep hs.2 hgr hr⟩) ?_ ⟨hI1, hBk⟩).mono ?_
  · -- one round
    rintro pre x W ⟨hi, hl, hk⟩ hnx
    have hl : W.heap[w.heap.size + 1]? = some (.loop (rec .ready none)) := hl
    have hlt : w.heap.size + 1 < W.heap.size := (Array.getElem?_eq_some_iff.1 hl).1
    have hy := run_yield (P := P) (args := encs x) hl (by rw [hrec]; exact hps x)
    rw [hrec] at hy
    refine ⟨fn, _, assign, body, hy, roundIn_of_wpIn hfn (hassign _ pre x W _ hi hnx (fun a1 Wa hka hkpa hia hnxa hA1 => ?_))⟩
    have hla : Wa.heap[w.heap.size + 1]? = some (.loop (rec .ready none)) := hka.same _ _ (by omega) hl rfl
    have hkk : Wa.heap[w.heap.size]? = some (.deferred (some [])) := hka.same _ _ (Nat.le_refl _) hk rfl
    have hlta : w.heap.size + 1 < Wa.heap.size := (Array.getElem?_eq_some_iff.1 hla).1
    refine ⟨_, run_beginRound hla (by rw [hrec]), ?_⟩
    obtain ⟨Wb, hWb⟩ : ∃ Wb, Wa.putObj (w.heap.size + 1) (.loop { rec .ready none with state := .busy }) = Wb := ⟨_, rfl⟩
    have hl2 : Wb.heap[w.heap.size + 1]? = some (.loop { rec .ready none with state := .busy }) := by rw [← hWb]; exact World.putObj_heap_same hlta
    have hk2 : Wb.heap[w.heap.size]? = some (.deferred (some [])) := by rw [← hWb]; exact (World.putObj_heap_other (by omega)).trans hkk
    have hw2 : Kp W Wb := by rw [← hWb]; exact hKt hkpa (hKb _ _ _ _ (by omega) hla rfl rfl)
    have hi2 : I pre Wb := by rw [← hWb]; exact hI.putObj _ hia (by omega) hla rfl
    have hnx2 : Nx pre x Wb := by rw [← hWb]; exact hNb pre x _ _ _ _ (by omega) hla rfl rfl hnxa
    have hA2 : A₁ x a1 Wb := by rw [← hWb]; exact hA x a1 _ _ _ _ (by omega) hla rfl rfl hA1
    rw [hWb]
    refine wpIn_mono (hbody _ pre x _ _ hi2 hnx2 hA2) ?_
    have fin : ∀ (jump : Option Code) (W3 : World), KeepsFrom w.heap.size Wb W3 →
        ∃ W4, W4 = W3.putObj (w.heap.size + 1) (.loop (rec (if jump.isNone then .ready else .done) jump)) ∧ (Instr.endRound (w.heap.size + 1) jump).run P W3 = .ok (.bool jump.isNone) W4 ∧ W3.heap[w.heap.size + 1]? = some (.loop { rec .ready none with state := .busy }) ∧ Bk jump W4 := fun jump W3 hk3 => by
      have hl3 := hk3.same _ _ (by omega) hl2 rfl
      have hrun := run_endRound (P := P) jump hl3
      refine ⟨_, rfl, ?_, hl3, World.putObj_heap_same (Array.getElem?_eq_some_iff.1 hl3).1, (World.putObj_heap_other (by omega)).trans (hk3.same _ _ (Nat.le_refl _) hk2 rfl)⟩
      rw [hrec] at hrun ⊢
      exact hrun
    rintro e a3 W3 hp
    cases e with
    | normal =>
      obtain ⟨hk3, hkp3, hi3⟩ := hp
      obtain ⟨W4, rfl, hrun, hl3, hb4⟩ := fin none W3 hk3
      exact ⟨_, _, hrun, .inl ⟨rfl, ⟨hI.putObj _ hi3 (by omega) hl3 rfl, hb4⟩, hKt (hKt hw2 hkp3) (hKb _ _ _ _ (by omega) hl3 rfl rfl)⟩⟩
    | ret =>
      obtain ⟨hk3, hi3⟩ := hp
      obtain ⟨W4, rfl, hrun, hl3, hb4⟩ := fin (some .ret) W3 hk3
      exact ⟨_, _, hrun, .inr ⟨rfl, hIx.putObj _ hi3 (by omega) hl3 rfl, hb4⟩⟩
    | exit id => exact hp.elim
    | goto t => exact hp.elim
    | panic ch => exact hp.elim
    | outgrown => exact hp.elim
  · -- behind the iterator
    rintro e W2 ⟨⟨v, rfl⟩, (⟨xs, hS, hi, hl, hk⟩ | ⟨pre, hSp, hi, hl, hk⟩)⟩
    · have hl : W2.heap[w.heap.size + 1]? = some (.loop (rec .ready none)) := hl
      exact ⟨none, _, by have := run_endLoop (P := P) hl (by rw [hrec]; simp); rw [hrec] at this; exact this, hdone _ xs _ (Nat.le_refl _) hS (hI.putObj _ hi (by omega) hl rfl) ((World.putObj_heap_other (by omega)).trans hk)⟩
    · have hl : W2.heap[w.heap.size + 1]? = some (.loop (rec .done (some .ret))) := hl
      exact ⟨some .ret, _, by have := run_endLoop (P := P) hl (by rw [hrec]; simp); rw [hrec] at this; exact this, hstop _ pre _ (Nat.le_refl _) hSp (hIx.putObj _ hi (by omega) hl rfl) ((World.putObj_heap_other (by omega)).trans hk)⟩
end law
end Go.Proofs.Ytjcaflhlilckgaa.QA
