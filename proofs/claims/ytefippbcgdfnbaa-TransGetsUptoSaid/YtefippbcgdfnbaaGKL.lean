import Derived.RangeFuncNested
import Derived.RangeFuncBound
import Derived.RangeFuncCalls
import Derived.RangeFuncLeaves
import Derived.Shelf.Abstract
import Derived.Shelf.RegionOpen
import Derived.WalkKit
import Derived.OwnWalkIn
import Derived.TacticsInMore
import Derived.LoopNIn
import Derived.LoopIn
import Derived.Maps.AppendAt
import Derived.StillTailTactics
import Derived.Lib.Hide
import Derived.Lib.LazyBuf
import Derived.Outline
import Derived.Deep.RegionWith
import Derived.Deep.RegionLaw
import Derived.Deep.AppendLies
import Derived.Test.YtefippbcgdfnbaaQAx0
import Derived.ArgAppend
import Derived.Lib.SmallJoins
namespace Go.Proofs.Ytefippbcgdfnbaa.QA
open Go.RowKit Go.Shelf Go.Proofs.YtefippbcgdfnbaaW.PrintWords Go.Proofs.YtefippbcgdfnbaaW.PrintLast Go.Proofs.YtefippbcgdfnbaaW.PrintMore
set_option linter.unusedVariables false
set_option linter.unusedSimpArgs false
/-! ### a row of bytes that is the call's own, or the bytes of a constant (their block bears a mark; append makes a new row of them) -/
namespace KL
open Go.Proofs.YtefippbcgdfnbaaW.PrintWords
/-- the bytes of a constant -/
def Lit (W : World) (base : Nat) (ok : Nat → Prop) (v : Value) (xs : List Int) : Prop :=
  ∃ g, v = .slice (some ⟨g, 0, none⟩) xs.length xs.length ∧ 0 < xs.length ∧ xs.length ≤ 1048576 ∧ base ≤ g ∧ ok g ∧ W.heap[g]? = some (.cells (xs.map (Value.int .u8)).toArray 5 (xs.length, xs.length + 1))
def R (W : World) (base : Nat) (ok : Nat → Prop) (v : Value) (xs : List Int) : Prop := Kd.R (Kd.int .u8) 5 W base ok v xs ∨ Lit W base ok v xs
variable {W W' w1 : World} {base : Nat} {ok ok' : Nat → Prop} {v : Value} {xs : List Int}
theorem R_step (h : R W base ok v xs) (hk : ∀ k, ok k → k < W.heap.size → W'.heap[k]? = W.heap[k]?) : R W' base ok v xs := by
  rcases h with h | ⟨g, h1, h2, h3, h4, h5, h6⟩
  · exact .inl (Kd.R_step h hk)
  · exact .inr ⟨g, h1, h2, h3, h4, h5, (hk g h5 (Array.getElem?_eq_some_iff.1 h6).1).trans h6⟩
theorem R_below (h : R W base ok v xs) (hb : Below W.heap.size W w1) : R w1 base ok v xs := R_step h (fun k _ hk => hb.block k hk)
theorem R_alloc (h : R W base ok v xs) (o : Obj) : R (W.alloc o) base ok v xs := R_below h (below_alloc (Below.refl _ _) o)
theorem R_drew (h : R W base ok v xs) : R W.drew base ok v xs := R_below h (below_drew (Below.refl _ _))
theorem R_drewN (h : R W base ok v xs) (m : Nat) : R (W.drewN m) base ok v xs := R_below h (pw_below_drewN (Below.refl _ _) m)
theorem R_mono (h : R W base ok v xs) (hok : ∀ k, ok k → ok' k) : R W base ok' v xs := by
  rcases h with h | ⟨g, h1, h2, h3, h4, h5, h6⟩
  · exact .inl (Kd.R_mono h hok)
  · exact .inr ⟨g, h1, h2, h3, h4, hok g h5, h6⟩
theorem R_far (h : R W base ok v xs) {p : Addr} (hok : ∀ k, ok k → k ≠ p.block) (u : Value) : R (W.setCell p u) base ok v xs := R_step h (fun k ho _ => Below.heap_setCell W p u k (hok k ho))
theorem R_types (h : R W base ok v xs) {g t : Nat} {cells : Array Value} (hb : W.heap[g]? = some (.cells cells t (0, 0))) (ht : ∀ q, q ∈ 5 :: (Kd.int .u8).E → q ≠ t) : R W base (fun k => ok k ∧ k ≠ g) v xs := by
  rcases h with h | ⟨g', h1, h2, h3, h4, h5, h6⟩
  · exact .inl (Kd.R_types h hb ht)
  · refine .inr ⟨g', h1, h2, h3, h4, ⟨h5, fun e => ?_⟩, h6⟩
    subst e
    rw [h6] at hb
    exact ht 5 (List.mem_cons_self ..) (Obj.cells.inj (Option.some.inj hb)).2.1
theorem R_ne (h : R W base ok v xs) {g t : Nat} {cells : Array Value} (hb : W.heap[g]? = some (.cells cells t (0, 0))) (ht : (5 : Nat) ≠ t) : some g ≠ v.ownBlock := by
  rcases h with h | ⟨g', h1, h2, h3, h4, h5, h6⟩
  · exact Kd.R_ne h hb ht
  · rw [h1]
    intro e
    have : g = g' := by simpa [Value.ownBlock] using e
    subst this
    rw [h6] at hb
    exact ht (Obj.cells.inj (Option.some.inj hb)).2.1
/-- what is told of it to those who only read it -/
theorem R_reads (h : R W base ok v xs) : ∃ A c, v = .slice A xs.length c ∧ xs.length ≤ c ∧ Kd.C (Kd.int .u8) W A xs.length xs := by
  rcases h with h | ⟨g, h1, h2, h3, h4, h5, h6⟩
  · exact Kd.R_reads h
  · refine ⟨_, _, h1, Nat.le_refl _, rfl, by omega, fun _ => ⟨_, rfl, fun j x hj => ⟨[.int .u8 x], rfl, rfl, ?_⟩⟩⟩
    intro i u hu
    rcases i with _ | i
    · simp at hu
      subst hu
      rw [add_plain]
      simp [World.cell?, h6, Kd.int, Kd.scalar, hj]
    · simp at hu
theorem R_base (h : R W base ok v xs) : ∀ k, v.ownBlock = some k → base ≤ k := by
  rcases h with h | ⟨g, h1, h2, h3, h4, h5, h6⟩
  · exact Kd.R_base h
  · intro k hk
    rw [h1] at hk
    have : g = k := by simpa [Value.ownBlock] using hk
    omega
theorem R_over' {e' : Nat} {u : Value} (h : R W base ok u xs) (hty : ∀ k, v.ownBlock = some k → ∃ cells, W.heap[k]? = some (.cells cells e' (0, 0))) (ht : ∀ q, q ∈ 5 :: (Kd.int .u8).E → q ≠ e') (hg : W.grownBy w1 v.ownBlock) : R w1 base ok u xs := by
  rcases h with h | ⟨g, h1, h2, h3, h4, h5, h6⟩
  · exact .inl (Kd.R_over' h hty ht hg)
  · refine .inr ⟨g, h1, h2, h3, h4, h5, (hg.block g (Array.getElem?_eq_some_iff.1 h6).1 (fun he => ?_)).trans h6⟩
    obtain ⟨cells', hc'⟩ := hty g he.symm
    rw [h6] at hc'
    injection hc' with hc'
    injection hc' with _ hc'
    exact ht 5 (List.mem_cons_self ..) hc'
theorem of_R (h : Kd.R (Kd.int .u8) 5 W base ok v xs) : R W base ok v xs := .inl h
theorem R_lower {base' : Nat} (h : R W base ok v xs) (hb : base' ≤ base) : R W base' ok v xs := by
  rcases h with h | ⟨g, h1, h2, h3, h4, h5, h6⟩
  · exact .inl (Kd.R_lower h hb)
  · exact .inr ⟨g, h1, h2, h3, by omega, h5, h6⟩
theorem R_lt (h : R W base ok v xs) : ∀ k, v.ownBlock = some k → k < W.heap.size := by
  rcases h with h | ⟨g, h1, h2, h3, h4, h5, h6⟩
  · exact Kd.R_lt h
  · intro k hk
    rw [h1] at hk
    have : g = k := by simpa [Value.ownBlock] using hk
    subst this
    exact (Array.getElem?_eq_some_iff.1 h6).1
theorem R_elder' {u : Value} (hu : R W base ok u xs) (hbase : ∀ k, v.ownBlock = some k → W.heap.size ≤ k) (hb : Below W.heap.size W w1) : R w1 base (fun k => ok k ∧ some k ≠ v.ownBlock) u xs := by
  rcases hu with h | ⟨g, h1, h2, h3, h4, h5, h6⟩
  · exact .inl (Kd.R_elder' h hbase hb)
  · have hg := (Array.getElem?_eq_some_iff.1 h6).1
    exact .inr ⟨g, h1, h2, h3, h4, ⟨h5, fun e => by have := hbase g e.symm; omega⟩, (hb.block g hg).trans h6⟩
theorem R_new' {u : Value} (h : R w1 W.heap.size ok v xs) (hlt : ∀ k, u.ownBlock = some k → k < W.heap.size) : R w1 W.heap.size (fun k => ok k ∧ some k ≠ u.ownBlock) v xs := by
  rcases h with h | ⟨g, h1, h2, h3, h4, h5, h6⟩
  · exact .inl (Kd.R_new' h hlt)
  · exact .inr ⟨g, h1, h2, h3, h4, ⟨h5, fun e => by have := hlt g e.symm; omega⟩, h6⟩
theorem R_newM {w : World} {M : Nat → Prop} (h : R w1 W.heap.size ok v xs) (hle : w.heap.size ≤ W.heap.size) (hM : ∀ k, w.heap.size ≤ k → M k) : R w1 W.heap.size (fun k => M k ∧ ok k) v xs := by
  rcases h with h | ⟨g, h1, h2, h3, h4, h5, h6⟩
  · exact .inl (Kd.R_newM h hle hM)
  · exact .inr ⟨g, h1, h2, h3, h4, ⟨hM g (by omega), h5⟩, h6⟩
theorem R_slice (h : R W base ok v xs) : ∃ A c, v = .slice A xs.length c := by
  obtain ⟨A, c, h1, _⟩ := R_reads h
  exact ⟨A, c, h1⟩
theorem R_reads' {A : Option Addr} {n c : Nat} (h : R W base ok (.slice A n c) xs) : n = xs.length ∧ n ≤ c ∧ Kd.C (Kd.int .u8) W A xs.length xs := by
  obtain ⟨A', c', h1, h2, h3⟩ := R_reads h
  cases h1
  exact ⟨rfl, h2, h3⟩
theorem R_V {base' : Nat} (h : R W base ok v xs) : Kd.V (Kd.int .u8) 5 W base' ok v xs := by
  obtain ⟨A, c, rfl⟩ := R_slice h
  exact ⟨A, c, rfl, (R_reads' h).2.1, fun W' hW => (R_reads' (R_step h hW)).2.2⟩
theorem R_string {P : Program} {t e u : TypeId} (ht : P.underlying t = some (.slice e)) (he : P.underlying e = some (.int .u8)) (hu : P.underlying u = some .string) (h : R W base ok v xs) : (convert t u v).run P W = .ok (.string (strOfNums xs)) W := by
  obtain ⟨A, c, rfl, _, h3⟩ := R_reads h
  exact Kd.C_string ht he hu h3
theorem V_string {P : Program} {t e u : TypeId} {A : Option Addr} {n c q : Nat} (ht : P.underlying t = some (.slice e)) (he : P.underlying e = some (.int .u8)) (hu : P.underlying u = some .string) (h : Kd.V (Kd.int .u8) q W base ok (.slice A n c) xs) : (convert t u (.slice A n c)).run P W = .ok (.string (strOfNums xs)) W := by
  obtain ⟨h1, h2, h3⟩ := Kd.V_reads' h
  subst h1
  exact Kd.C_string ht he hu h3
section
variable {P : Program} {ops : Array Oper} {rest : List Oper} {o : Oper} {a : Act} {Q : Exit → Act → World → Prop}
theorem R_append {w0 W : World} (base : Nat) (hgd : o.guard = none) (s x : Operand) (t : TypeId)
    (ho : o.op = .call { callee := .builtin .append, args := #[s, x], argTypes := #[t, t] })
    (ht : P.underlying t = some (.slice 5)) (hinfo : (P.info? 5).map (fun i => (i.zero, i.size, i.bytes)) = some (some (.int .u8 0), 1, 1))
    (v : Value) (xs : List Int) (p : Int) (ok : Nat → Prop) (hs : a.eval s = v) (hx : a.eval x = .slice (some ⟨W.heap.size, 0, none⟩) 1 1) (hfresh : ∀ k, W.heap.size ≤ k → ok k)
    (HO : R W base ok v xs) (HB : Below base w0 W) (hbase : base ≤ W.heap.size) (hl : (xs.length + 1) * 1 ≤ 140737488355328)
    (h : ∀ v1 w1, Kd.R (Kd.int .u8) 5 w1 base ok v1 (xs ++ [p]) → Below base w0 w1 → W.grownBy w1 v.ownBlock → (v1.ownBlock = v.ownBlock ∨ ∃ b, v1.ownBlock = some b ∧ W.heap.size ≤ b) → wpList P ops Q rest (a.put o.dst v1) w1) :
    wpList P ops Q (o :: rest) a (W.alloc (.cells #[.int .u8 p] 5)) := by
  rcases HO with HO | ⟨g, h1, h2, h3, h4, h5, h6⟩
  · exact Kd.R_append (Kd.int .u8) base hgd s x t 5 (.int .u8 0) 1 ho ht hinfo rfl (by decide) (by decide) v xs p [.int .u8 p] ok (fun _ => False) hs hx rfl (fun _ hk => hk.elim) hfresh HO HB hbase hl h
  · subst h1
    obtain ⟨i0, hi, hzz⟩ := Option.map_eq_some_iff.1 hinfo
    simp only [Prod.mk.injEq] at hzz
    obtain ⟨hz0, hz1, hz2⟩ := hzz
    have hg : g < W.heap.size := (Array.getElem?_eq_some_iff.1 h6).1
    have h7 : (W.alloc (.cells #[.int .u8 p] 5)).heap[g]? = some (.cells (xs.map (Value.int .u8)).toArray 5 (xs.length, xs.length + 1)) := (Below.heap_alloc W _ g hg).trans h6
    have h8 : (W.alloc (.cells #[.int .u8 p] 5)).heap[W.heap.size]? = some (.cells #[.int .u8 p] 5) := World.alloc_heap_new W _
    refine wpList_append_grows (W.alloc (.cells #[.int .u8 p] 5)) hgd s x t ho 5 i0 (.int .u8 0) 1 1 ht hi hz0 hz1 hz2 rfl (by decide) (some ⟨g, 0, none⟩) xs.length xs.length (xs.map (Value.int .u8)) hs (fun e => by cases e) (by simp) ?_
      ⟨W.heap.size, 0, none⟩ 1 1 [.int .u8 p] hx rfl ?_ ?_ (by omega) (by simp only [maxLen]; omega) hl ?_
    · rintro b e j u hj
      cases e
      rw [add_plain]
      simp only [World.cell?, h7]
      simpa using hj
    · intro j u hj
      rw [add_plain]
      simp only [World.cell?, h8]
      simpa using hj
    · intro u hu
      simp at hu
      subst hu
      rfl
    · intro v1 w1 hown hgr
      have hsz : (W.alloc (.cells #[.int .u8 p] 5)).heap.size = W.heap.size + 1 := World.size_alloc _ _
      have hown2 : w1.ownsRow base 5 1 v1 (xs.length + 1) (nums .u8 (xs ++ [p])) := by
        have := Joins.ownsRow_le hown (show base ≤ (W.alloc (.cells #[.int .u8 p] 5)).heap.size by omega)
        simpa [nums] using this
      have hbk : ∀ k, v1.ownBlock = some k → W.heap.size ≤ k := fun k hk => by have := own_base hown k hk; omega
      have hba : Below base w0 (W.alloc (.cells #[.int .u8 p] 5)) := HB.alloc hbase _
      refine h v1 w1 ?_ (hba.grown hgr (by omega) (fun k e => by cases e)) ?_ ?_
      · have := Kd.R_of_own (enc := Value.int .u8) (h1 := fun _ => rfl) (ok := ok) (xs := xs ++ [p]) (by rw [List.length_append]; exact hown2) (fun k hk => hfresh k (hbk k hk))
        exact this
      · have hg1 := (World.grownBy_alloc W (.cells #[.int .u8 p] 5) none).trans hgr
        exact ⟨hg1.os, hg1.tape, hg1.output, hg1.size, fun k hk _ => hg1.block k hk (by simp)⟩
      · obtain ⟨g', cap, rfl⟩ := Joins.ownsRow_form hown (by omega)
        exact .inr ⟨g', rfl, hbk g' rfl⟩
end
end KL
end Go.Proofs.Ytefippbcgdfnbaa.QA
